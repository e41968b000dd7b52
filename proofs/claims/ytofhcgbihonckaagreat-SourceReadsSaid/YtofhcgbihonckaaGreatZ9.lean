/- Contracts of tree: Property, depth, what Check asks of properties. | What Read of source computes, in plain Lean. | What Load of include answers, in plain Lean. | Plain laws: bodies within bodies; the chapter's example. | Contracts of bringupref03: Property. | Plain laws: what Read of source answers has its nodes in pairs, and its places in order. | Plain laws: nodes in pairs, places in order: bodies and their members. | Plain laws: nodes in pairs, places in order: a whole text. -/
import Derived.Test.YtofhcgbihonckaaGreatZ7
import Derived.Test.YtofhcgbihonckaaGreatZ8
import Derived.Deep.LoopGhost
import Derived.IntWalk
import Derived.Test.YtofhcgbihonckaaGreatZ3
import Derived.Test.YtofhcgbihonckaaGreatZ6
import Derived.Test.YtofhcgbihonckaaGreatZ5
set_option linter.unusedVariables false
set_option linter.unusedSimpArgs false
set_option linter.unusedSectionVars false
namespace Go.Proofs.YtofhcgbihonckaaGreat
open Go.RowKit
theorem drop_data (s : ByteArray) (a : Nat) : (s.extract a s.size).data.toList = s.data.toList.drop a := by
  simp [ByteArray.data_extract, Array.toList_extract, List.extract_eq_take_drop]
  try exact List.take_of_length_le (by simp)
theorem memB_idx (l : List UInt8) (b : UInt8) : decide (0 ≤ Lib.indexByte l b) = memB l b.toNat := idx_byte l b
theorem adds_of' (a b : ByteArray) (h : a.size + b.size ≤ 9223372036854775807) : ∃ c : ByteArray, (∀ wx, (Op.stringOp .add a b).run Tryz.prog wx = .ok (.string c) wx) ∧ c.size = a.size + b.size ∧ c.data.toList = a.data.toList ++ b.data.toList := by
  refine ⟨a ++ b, fun wx => ?_, by simp, by simp⟩
  simp only [Op.stringOp]
  rw [if_neg (by simp [IntKind.max, IntKind.signed, IntKind.bits]; omega)]
  rfl
set_option maxHeartbeats 800000 in
theorem tree_Property (s : ByteArray) (w : World) (hs : s.size ≤ 9223372036854775807) :
    Calls Tryz.prog 125 #[.string s] w fun e w' => e = .returned (.bool (propB s)) ∧ w = w' := by
  have hH := fun wx => Tryz.strings_HasPrefix s ⟨#[35]⟩ wx
  have hF := Lib.hid (show propB s = propT s.data.toList from rfl)
  by_cases h : Lib.hasPrefix s.data.toList [35] = true
  · have hpl := Lib.hasPrefix_le h
    simp only [List.length_cons, List.length_nil] at hpl
    have hs1 : 1 ≤ s.size := by simpa using hpl
    have hH2 : Lib.hasPrefix s.data.toList (⟨#[35]⟩ : ByteArray).data.toList = true := h
    rw [hH2] at hH
    have HH := Lib.hid hH; clear hH hH2
    have hx : (s.extract 1 s.size).size = s.size - 1 := by simp
    obtain ⟨c, hadd, hcs, hcd⟩ := adds_of' ⟨#[95]⟩ (s.extract 1 s.size) (by rw [show (⟨#[95]⟩ : ByteArray).size = 1 from rfl]; omega)
    rw [show (⟨#[95]⟩ : ByteArray).size = 1 from rfl] at hcs
    have hcl : c.data.toList = 95 :: s.data.toList.drop 1 := by rw [hcd, drop_data]; rfl
    have hN := fun wx => token_Name c wx (by unfold maxLen; omega)
    have hC := fun wx => Tryz.strings_Contains_one c 64 wx
    rw [memB_idx, hcl] at hC
    rw [hcl] at hN
    have HF : Hid (propB s = (nameT (95 :: s.data.toList.drop 1) && !memB (95 :: s.data.toList.drop 1) 64)) := by show _ = _; rw [hF.out]; unfold propT; rw [if_pos h]
    have HN := Lib.hid hN; clear hN
    have HC := Lib.hid hC; clear hC
    clear h hF hcd hcl hpl
    cases hy : nameT (95 :: s.data.toList.drop 1) with
    | true =>
      rw [hy] at HN HF
      clear hy
      go_enter Tryz.func125, Tryz.ntmps125
      go_wp2_with fail
      refine (HH.out _).mono ?_
      rintro e w' ⟨rfl, rfl⟩
      go_wp2_with fail
      refine (HN.out _).mono ?_
      rintro e w' ⟨rfl, rfl⟩
      go_wp2_with fail
      refine (HC.out _).mono ?_
      rintro e w' ⟨rfl, rfl⟩
      go_wp2_with fail
      go_ret
      exact ⟨ret_bool (by rw [HF.out]; simp), rfl⟩
    | false =>
      rw [hy] at HN HF
      clear hy
      go_enter Tryz.func125, Tryz.ntmps125
      go_wp2_with fail
      refine (HH.out _).mono ?_
      rintro e w' ⟨rfl, rfl⟩
      go_wp2_with fail
      refine (HN.out _).mono ?_
      rintro e w' ⟨rfl, rfl⟩
      go_wp2_with fail
      go_ret
      exact ⟨ret_bool (by rw [HF.out]; simp), rfl⟩
  · have h : Lib.hasPrefix s.data.toList [35] = false := by simpa using h
    have hH2 : Lib.hasPrefix s.data.toList (⟨#[35]⟩ : ByteArray).data.toList = false := h
    rw [hH2] at hH
    have HH := Lib.hid hH; clear hH hH2
    have hN := fun wx => token_Name s wx (by unfold maxLen; omega)
    have hC := fun wx => Tryz.strings_Contains_one s 64 wx
    rw [memB_idx] at hC
    have HF : Hid (propB s = (nameT s.data.toList && !memB s.data.toList 64)) := by show _ = _; rw [hF.out]; unfold propT; rw [if_neg (by simp [h])]
    have HN := Lib.hid hN; clear hN
    have HC := Lib.hid hC; clear hC
    clear h hF
    cases hy : nameT s.data.toList with
    | true =>
      rw [hy] at HN HF
      clear hy
      go_enter Tryz.func125, Tryz.ntmps125
      go_wp2_with fail
      refine (HH.out _).mono ?_
      rintro e w' ⟨rfl, rfl⟩
      go_wp2_with fail
      refine (HN.out _).mono ?_
      rintro e w' ⟨rfl, rfl⟩
      go_wp2_with fail
      refine (HC.out _).mono ?_
      rintro e w' ⟨rfl, rfl⟩
      go_wp2_with fail
      go_ret
      exact ⟨ret_bool (by rw [HF.out]; simp), rfl⟩
    | false =>
      rw [hy] at HN HF
      clear hy
      go_enter Tryz.func125, Tryz.ntmps125
      go_wp2_with fail
      refine (HH.out _).mono ?_
      rintro e w' ⟨rfl, rfl⟩
      go_wp2_with fail
      refine (HN.out _).mono ?_
      rintro e w' ⟨rfl, rfl⟩
      go_wp2_with fail
      go_ret
      exact ⟨ret_bool (by rw [HF.out]; simp), rfl⟩
end Go.Proofs.YtofhcgbihonckaaGreat
namespace Go.Proofs.YtofhcgbihonckaaGreat
open Go.RowKit
structure CellT where
  value : Int
  label : ByteArray
structure PartT where
  kind : Int
  cells : List CellT
  text : ByteArray
structure DefT where
  kind : Int
  label : ByteArray
  name : ByteArray
  parts : List PartT
  line : Int
  col : Int
abbrev Rs (α : Type) := Except (Nat × Int) α
section
variable (L : List Tok)
def tkN (i : Nat) : Tok := L.getD i ⟨8, [], 0, 0, 0⟩
def txN (i : Nat) : ByteArray := ⟨(tkN L i).text.toArray⟩
def isK (i : Nat) (kind : Int) (text : List UInt8) : Bool := decide ((tkN L i).kind = kind) && (text.isEmpty || decide ((tkN L i).text = text))
def signR (s : List UInt8) (i : Nat) : Rs Nat := if isK L i 4 s = true then .ok (i + 1) else .error (i, 6)
def takenR (kind : Int) (right : List UInt8 → Bool) (i : Nat) : Rs Nat := if (tkN L i).kind = kind then (if right (tkN L i).text = true then .ok (i + 1) else .error (i, 1)) else .error (i, 6)
def primX (i : Nat) : Int × Int × Int := outT (evF (L.map tkX) .prim 0 i)
def bytesR : Nat → Nat → List UInt8 → Rs (Nat × List UInt8)
  | 0, i, _ => .error (i, 6)
  | n + 1, i, acc =>
    if isK L i 4 [93] = true then .ok (i + 1, acc)
    else if (tkN L i).kind ≠ 2 then .error (i, 6)
    else if 255 < (tkN L i).value then .error (i, 2)
    else bytesR n (i + 1) (acc ++ [((tkN L i).value % 256).toNat.toUInt8])
def cellsR : Nat → Nat → List CellT → Rs (Nat × List CellT)
  | 0, i, _ => .error (i, 6)
  | n + 1, i, acc =>
    if isK L i 4 [62] = true then .ok (i + 1, acc)
    else if (tkN L i).kind = 6 then (if labelT (tkN L i).text = true then cellsR n (i + 1) (acc ++ [⟨0, txN L i⟩]) else .error (i, 1))
    else if (primX L i).2.2 ≠ 0 then .error (i, (primX L i).2.2) else cellsR n (primX L i).2.1.toNat (acc ++ [⟨(primX L i).1, ⟨#[]⟩⟩])
def fuelP : Nat := L.length + 1
def partR (i : Nat) : Rs (Nat × PartT) :=
  if (tkN L i).kind = 3 then .ok (i + 1, ⟨2, [], txN L i⟩)
  else if (tkN L i).kind = 6 then (if labelT (tkN L i).text = true then .ok (i + 1, ⟨4, [], txN L i⟩) else .error (i, 1))
  else if isK L i 4 [60] = true then (match cellsR L (fuelP L) (i + 1) [] with
    | .ok (j, cs) => .ok (j, ⟨1, cs, ⟨#[]⟩⟩)
    | .error e => .error e)
  else if isK L i 4 [91] = true then (match bytesR L (fuelP L) (i + 1) [] with
    | .ok (j, b) => .ok (j, ⟨3, [], ⟨b.toArray⟩⟩)
    | .error e => .error e)
  else .error (i, 6)
def partsR : Nat → List UInt8 → Nat → List PartT → Rs (Nat × List PartT)
  | 0, _, i, _ => .error (i, 6)
  | n + 1, sep, i, acc =>
    if isK L i 4 sep = true then (match partR L (i + 1) with
      | .ok (j, p) => partsR n [44] j (acc ++ [p])
      | .error e => .error e)
    else .ok (i, acc)
def delR (kind what : Int) (before : List UInt8) (right : List UInt8 → Bool) (i : Nat) : Rs (Nat × List DefT) :=
  match takenR L what right (i + 1) with
  | .error e => .error e
  | .ok j => match signR L [59] j with
    | .error e => .error e
    | .ok k => .ok (k, [⟨kind, ⟨#[]⟩, ⟨(before ++ (tkN L (i + 1)).text).toArray⟩, [], (tkN L i).line, (tkN L i).col⟩])
inductive Md where
  | body : DefT → Nat → Md
  | mems : Nat → List DefT → Md
  | member : Nat → Md
  | named : Nat → Md
def srcE : Nat → Md → Nat → Rs (Nat × List DefT)
  | 0, _, i => .error (i, 6)
  | n + 1, .body d dp, i =>
    if isK L i 4 [123] = true then (if 8 < dp then .error (i, 3) else srcE n (.mems dp [d]) (i + 1)) else .error (i, 6)
  | n + 1, .mems dp acc, i =>
    if isK L i 4 [125] = true then .ok (i + 1, acc ++ [⟨2, ⟨#[]⟩, ⟨#[]⟩, [], (tkN L i).line, (tkN L i).col⟩])
    else (match srcE n (.member dp) i with
      | .error e => .error e
      | .ok (j, ds) => srcE n (.mems dp (acc ++ ds)) j)
  | n + 1, .member dp, i =>
    if (tkN L i).kind = 5 then (match takenR L 5 labelT i with
      | .error e => .error e
      | .ok j => match takenR L 1 nameT j with
        | .error e => .error e
        | .ok k => match srcE n (.body ⟨1, txN L i, txN L j, [], (tkN L i).line, (tkN L i).col⟩ (dp + 1)) k with
          | .error e => .error e
          | .ok (m, ds) => match signR L [59] m with
            | .error e => .error e
            | .ok q => .ok (q, ds))
    else if (tkN L i).kind = 1 then (match srcE n (.named dp) i with
      | .error e => .error e
      | .ok (m, ds) => match signR L [59] m with
        | .error e => .error e
        | .ok q => .ok (q, ds))
    else if isK L i 7 [100, 101, 108, 101, 116, 101, 45, 112, 114, 111, 112, 101, 114, 116, 121] = true then delR L 4 1 [] propT i
    else if isK L i 7 [100, 101, 108, 101, 116, 101, 45, 110, 111, 100, 101] = true then delR L 5 1 [] nameT i
    else .error (i, 6)
  | n + 1, .named dp, i =>
    if isK L (i + 1) 4 [123] = true then
      (if nameT (tkN L i).text = true then srcE n (.body ⟨1, ⟨#[]⟩, txN L i, [], (tkN L i).line, (tkN L i).col⟩ (dp + 1)) (i + 1) else .error (i, 1))
    else if propT (tkN L i).text = true then (match partsR L (fuelP L) [61] (i + 1) [] with
      | .error e => .error e
      | .ok (j, ps) => .ok (j, [⟨3, ⟨#[]⟩, txN L i, ps, (tkN L i).line, (tkN L i).col⟩]))
    else .error (i, 1)
def fuelS : Nat := 3 * L.length + 3
def endR (d : DefT) (i : Nat) : Rs (Nat × List DefT) :=
  match srcE L (fuelS L) (.body d 0) i with
  | .error e => .error e
  | .ok (m, ds) => match signR L [59] m with
    | .error e => .error e
    | .ok q => .ok (q, ds)
def topR (i : Nat) : Rs (Nat × List DefT) :=
  if (tkN L i).kind = 5 then (match takenR L 5 labelT i with
    | .error e => .error e
    | .ok j => match signR L [47] j with
      | .error e => .error e
      | .ok k => endR L ⟨1, txN L i, ⟨#[47]⟩, [], (tkN L i).line, (tkN L i).col⟩ k)
  else if isK L i 4 [47] = true then endR L ⟨1, ⟨#[]⟩, ⟨#[47]⟩, [], (tkN L i).line, (tkN L i).col⟩ (i + 1)
  else if (tkN L i).kind = 6 then (match takenR L 6 labelT i with
    | .error e => .error e
    | .ok j => endR L ⟨1, ⟨#[]⟩, ⟨(38 :: (tkN L i).text).toArray⟩, [], (tkN L i).line, (tkN L i).col⟩ j)
  else if isK L i 7 [105, 110, 99, 108, 117, 100, 101] = true then delR L 6 3 [] (fun _ => true) i
  else if isK L i 7 [100, 101, 108, 101, 116, 101, 45, 110, 111, 100, 101] = true then delR L 5 6 [38] labelT i
  else .error (i, 6)
def topsR : Nat → Nat → List DefT → Rs (List DefT)
  | 0, i, _ => .error (i, 6)
  | n + 1, i, acc =>
    if (tkN L i).kind = 8 then .ok acc
    else (match topR L i with
      | .error e => .error e
      | .ok (j, ds) => topsR n j (acc ++ ds))
end
def srcT (l : List UInt8) (file : Int) : List DefT × (Int × Int × Int) × Int :=
  if (readT l file).2.2 ≠ 0 then ([], (readT l file).2.1, (readT l file).2.2)
  else match topsR (readT l file).1 (fuelP (readT l file).1) 0 [] with
    | .ok D => (D, (0, 0, 0), 0)
    | .error (k, c) => ([], (file, (tkN (readT l file).1 k).line, (tkN (readT l file).1 k).col), c)
end Go.Proofs.YtofhcgbihonckaaGreat
namespace Go.Proofs.YtofhcgbihonckaaGreat
open Go.RowKit
structure FileT where
  name : ByteArray
  text : ByteArray
abbrev FdT := Int × DefT
def tagT (file : Int) (D : List DefT) : List FdT := D.map fun d => (file, d)
abbrev GivT := List (Int × List FdT)
def givT (g : GivT) (k : Nat) : Option (List FdT) := (g.find? fun p => decide (p.1 = (k : Int))).map (·.2)
def roomT (before : Nat) (out : List FdT) : Nat := 6000 - before - out.length
end Go.Proofs.YtofhcgbihonckaaGreat
namespace Go.Proofs.YtofhcgbihonckaaGreat
open Go.RowKit
def exT : List UInt8 := [47, 32, 123, 32, 97, 58, 32, 98, 32, 123, 32, 120, 32, 61, 32, 60, 49, 32, 38, 97, 62, 44, 32, 34, 116, 34, 59, 32, 121, 59, 32, 125, 59, 32, 125, 59]
theorem ex_plain : srcT exT 0 = ([⟨1, ⟨#[]⟩, ⟨#[47]⟩, [], 1, 1⟩, ⟨1, ⟨#[97]⟩, ⟨#[98]⟩, [], 1, 5⟩, ⟨3, ⟨#[]⟩, ⟨#[120]⟩, [⟨1, [⟨1, ⟨#[]⟩⟩, ⟨0, ⟨#[97]⟩⟩], ⟨#[]⟩⟩, ⟨2, [], ⟨#[116]⟩⟩], 1, 12⟩, ⟨3, ⟨#[]⟩, ⟨#[121]⟩, [], 1, 29⟩, ⟨2, ⟨#[]⟩, ⟨#[]⟩, [], 1, 32⟩, ⟨2, ⟨#[]⟩, ⟨#[]⟩, [], 1, 35⟩], (0, 0, 0), 0) := by kernel_rfl
end Go.Proofs.YtofhcgbihonckaaGreat
namespace Go.Proofs.YtofhcgbihonckaaGreat
open Go.RowKit
theorem name_swap (r : List UInt8) : nameT (97 :: r) = nameT (95 :: r) := by
  unfold nameT
  simp [allB_cons, show letterB 97 = true from by decide, show nameB 97 = true from by decide, show nameB 95 = true from by decide, show letterB 95 = false from by decide]
theorem prop_hash (r : List UInt8) : propT (35 :: r) = (nameT (97 :: r) && !memB r 64) := by
  unfold propT
  rw [if_pos (by simp [Lib.hasPrefix]), name_swap]
  simp [memB]
theorem prop_plain (c : UInt8) (r : List UInt8) (h : c.toNat ≠ 35) : propT (c :: r) = (nameT (c :: r) && !memB (c :: r) 64) := by
  unfold propT
  rw [if_neg (by simp [Lib.hasPrefix]; intro e; exact h (by rw [← e]; rfl))]
theorem prop_len (l : List UInt8) (h : ¬ (1 ≤ l.length ∧ l.length ≤ 31)) : propT l = false := by
  cases l with
  | nil => rfl
  | cons c r =>
    by_cases hc : c.toNat = 35
    · have : c = 35 := UInt8.toNat_inj.1 hc
      subst this
      rw [prop_hash]; unfold nameT
      rw [show decide (1 ≤ (97 :: r : List UInt8).length ∧ (97 :: r : List UInt8).length ≤ 31) = false from by simpa using h]; rfl
    · rw [prop_plain c r hc]; unfold nameT
      rw [decide_eq_false h]; rfl
theorem prop_at (l : List UInt8) (h : memB l 64 = true) : propT l = false := by
  cases l with
  | nil => rfl
  | cons c r =>
    by_cases hc : c.toNat = 35
    · have : c = 35 := UInt8.toNat_inj.1 hc
      subst this
      rw [prop_hash, show memB r 64 = true from by simpa [memB] using h]; simp
    · rw [prop_plain c r hc, h]; simp
set_option maxHeartbeats 1000000 in
theorem ref3_Property (s : ByteArray) (w : World) (hs : s.size ≤ 9223372036854775807) :
    Calls Tryz.prog 107 #[.string s] w fun e w' => e = .returned (.bool (propB s)) ∧ w = w' := by
  by_cases hl : 1 ≤ s.size ∧ s.size ≤ 31
  · obtain ⟨h1, h2⟩ := hl
    go_enter Tryz.func107, Tryz.ntmps107
    go_wp2_with fail
    go_loop [3] (fun i => ∃ k : Nat, k ≤ s.size ∧ i = .int .i64 k ∧ Hid (memB s.data.toList 64 = memB (s.data.toList.drop k) 64)) (fun i => s.size - (intOf i).toNat)
    case atStart => exact ⟨0, Nat.zero_le _, rfl, rfl⟩
    case round =>
      obtain ⟨k, hk, rfl, hB⟩ := hrel
      by_cases hlt : k < s.size
      · have hD := Lib.hid (drop_cons s k hlt)
        by_cases h64 : s[k].toNat = 64
        · have hP := Lib.hid (show propB s = false from prop_at _ (by rw [hB.out, hD.out, memB_cons, h64]; rfl))
          have h64' : ((s[k].toNat : Int) == 64) = true := by simp [h64]
          clear h64
          go_wp2_with fail
          go_ret
          exact ⟨ret_bool (by rw [hP.out]), rfl⟩
        · have h64' : ((s[k].toNat : Int) == 64) = false := by simp; omega
          have hS := Lib.hid (show memB s.data.toList 64 = memB (s.data.toList.drop (k + 1)) 64 from by
            rw [hB.out, hD.out, memB_cons, show decide (((s[k].toNat : Nat) : Int) = 64) = false from by simp; omega]; rfl)
          clear h64
          go_wp2_with fail
          go_round
          case rel => exact ⟨k + 1, by omega, by go_num, hS⟩
          case measure => simp [intOf]; omega
      · have hM := Lib.hid (show memB s.data.toList 64 = false from by rw [hB.out, drop_end s k (by omega)]; rfl)
        have hD := Lib.hid (show s.data.toList = s[0] :: s.data.toList.drop 1 from by have := drop_cons s 0 h1; rw [List.drop_zero] at this; exact this)
        clear hB hk
        by_cases h35 : s[0].toNat = 35
        · have h35' : ((s[0].toNat : Int) == 35) = true := by simp [h35]
          have hP := Lib.hid (show propB s = nameT (97 :: s.data.toList.drop 1) from by
            have hM2 := hM.out
            unfold propB
            rw [hD.out] at hM2 ⊢
            rw [memB_cons] at hM2
            have e : s[0] = 35 := UInt8.toNat_inj.1 h35
            rw [e] at hM2 ⊢
            rw [prop_hash]
            simp at hM2
            simp [hM2])
          by_cases hone : s.size = 1
          · have hone' : ((s.size : Int) == 1) = true := by simp; omega
            have hP2 := Lib.hid (show propB s = true from by rw [hP.out, List.drop_eq_nil_of_le (by simp; omega)]; decide)
            clear h35 hone
            go_wp2_with fail
            go_ret
            exact ⟨ret_bool (by rw [hP2.out]), rfl⟩
          · have hone' : ((s.size : Int) == 1) = false := by simp; omega
            obtain ⟨c, hadd, hcs, hcd⟩ := adds_of' ⟨#[97]⟩ (s.extract 1 s.size) (by rw [show (⟨#[97]⟩ : ByteArray).size = 1 from rfl]; simp; omega)
            have hcz : c.size ≤ maxLen := by rw [hcs, show (⟨#[97]⟩ : ByteArray).size = 1 from rfl]; simp; unfold maxLen; omega
            have hnm := Lib.hid (ref_Name c · hcz)
            have hP2 := Lib.hid (show nameT c.data.toList = propB s from by rw [hP.out, hcd, drop_data]; rfl)
            clear h35 hone hcs hcd hcz
            go_wp2_with fail
            refine (hnm.out _).mono ?_
            rintro e w' ⟨rfl, rfl⟩
            go_wp2_with fail
            go_ret
            exact ⟨ret_bool hP2.out, rfl⟩
        · have h35' : ((s[0].toNat : Int) == 35) = false := by simp; omega
          have hP := Lib.hid (show nameT s.data.toList = propB s from by
            have hM2 := hM.out
            unfold propB
            rw [hD.out] at hM2 ⊢
            rw [prop_plain _ _ h35, hM2]; simp)
          clear h35
          go_wp2_with fail
          refine (ref_Name s _ (by unfold maxLen; omega)).mono ?_
          rintro e w' ⟨rfl, rfl⟩
          go_wp2_with fail
          go_ret
          exact ⟨ret_bool hP.out, rfl⟩
  · have hP := Lib.hid (show propB s = false from prop_len _ (by simpa using hl))
    have hcs : (s.size : Int) < 1 ∨ (1 ≤ (s.size : Int) ∧ 31 < (s.size : Int)) := by omega
    clear hl
    rcases hcs with h | ⟨h, h'⟩
    all_goals
      go_enter Tryz.func107, Tryz.ntmps107
      go_wp2_with fail
      go_ret
      exact ⟨ret_bool (by rw [hP.out]), rfl⟩
end Go.Proofs.YtofhcgbihonckaaGreat
namespace Go.Proofs.YtofhcgbihonckaaGreat
open Go.RowKit
def topB (s : ByteArray) : Bool := decide (s = ⟨#[47]⟩) || decide (s.data.toList.head? = some 38)
def stT (e : Nat) (d : DefT) : Option Nat :=
  if d.kind = 1 then (if d.name ≠ ⟨#[]⟩ ∧ decide (e = 0) = topB d.name then some (e + 1) else none)
  else if d.kind = 2 then (if e = 0 then none else some (e - 1))
  else if d.kind = 3 ∨ d.kind = 4 then (if e = 0 then none else some e)
  else if d.kind = 6 then (if e = 0 then some e else none)
  else some e
def dptT : Nat → List DefT → Option Nat
  | e, [] => some e
  | e, d :: ds => (stT e d).bind fun f => dptT f ds
theorem dpt_app : ∀ (a b : List DefT) (e : Nat), dptT e (a ++ b) = (dptT e a).bind fun f => dptT f b := by
  intro a
  induction a with
  | nil => intro b e; rfl
  | cons d a ih =>
    intro b e
    simp only [List.cons_append, dptT]
    cases stT e d with
    | none => rfl
    | some f => simpa using ih b f
theorem letter_ne {c : UInt8} (h : letterB c.toNat = true ∨ decide ((c.toNat : Int) = 95) = true) : c ≠ 47 ∧ c ≠ 38 := by
  constructor
  · rintro rfl; revert h; decide
  · rintro rfl; revert h; decide
theorem name_top {s : List UInt8} (h : nameT s = true) : (⟨s.toArray⟩ : ByteArray) ≠ ⟨#[]⟩ ∧ topB ⟨s.toArray⟩ = false := by
  unfold nameT at h
  simp only [Bool.and_eq_true, decide_eq_true_eq, Bool.or_eq_true] at h
  obtain ⟨⟨⟨h1, _⟩, h2⟩, _⟩ := h
  cases s with
  | nil => simp at h1
  | cons c s =>
    have hc := letter_ne (c := c) (by simpa using h2)
    refine ⟨fun e => ?_, ?_⟩
    · have := congrArg (fun b : ByteArray => b.data.toList.length) e
      simp at this
    · unfold topB
      have e1 : (⟨(c :: s).toArray⟩ : ByteArray) ≠ ⟨#[47]⟩ := by
        intro e
        have := congrArg (fun b : ByteArray => b.data.toList) e
        simp at this
        exact hc.1 this.1
      have e2 : ¬ ((⟨(c :: s).toArray⟩ : ByteArray).data.toList.head? = some 38) := by simpa using hc.2
      rw [decide_eq_false e1, decide_eq_false e2]; rfl
section
variable {L : List Tok}
def Asc (L : List Tok) (lo hi : Nat) (ds : List DefT) : Prop := ∃ ks : List Nat, ds.map (fun d => (d.line, d.col)) = ks.map (fun k => ((tkN L k).line, (tkN L k).col)) ∧ ks.Pairwise (· < ·) ∧ ∀ k ∈ ks, lo ≤ k ∧ k < hi ∧ (tkN L k).kind ≠ 8
theorem Asc.nil (lo hi : Nat) : Asc L lo hi [] := ⟨[], rfl, .nil, fun k h => by cases h⟩
theorem Asc.one {lo hi k : Nat} {d : DefT} (h : d.line = (tkN L k).line ∧ d.col = (tkN L k).col) (h1 : lo ≤ k) (h2 : k < hi) (h8 : (tkN L k).kind ≠ 8) : Asc L lo hi [d] := ⟨[k], by simp [h.1, h.2], by simp, fun q hq => by simp at hq; subst hq; exact ⟨h1, h2, h8⟩⟩
theorem Asc.app {lo mid mid2 hi : Nat} {a b : List DefT} (h : Asc L lo mid a) (k : Asc L mid2 hi b) (hm : mid ≤ mid2) (h1 : lo ≤ mid2) (h2 : mid ≤ hi) : Asc L lo hi (a ++ b) := by
  obtain ⟨ks, e1, p1, q1⟩ := h
  obtain ⟨js, e2, p2, q2⟩ := k
  refine ⟨ks ++ js, by simp [e1, e2], List.pairwise_append.2 ⟨p1, p2, fun x hx y hy => ?_⟩, fun x hx => ?_⟩
  · have := q1 x hx; have := q2 y hy; omega
  · rcases List.mem_append.1 hx with hx | hx
    · obtain ⟨z1, z2, z3⟩ := q1 x hx; exact ⟨by omega, by omega, z3⟩
    · obtain ⟨z1, z2, z3⟩ := q2 x hx; exact ⟨by omega, by omega, z3⟩
theorem Asc.wide {lo hi lo2 hi2 : Nat} {a : List DefT} (h : Asc L lo hi a) (h1 : lo2 ≤ lo) (h2 : hi ≤ hi2) : Asc L lo2 hi2 a := by
  obtain ⟨ks, e1, p1, q1⟩ := h
  exact ⟨ks, e1, p1, fun x hx => by obtain ⟨z1, z2, z3⟩ := q1 x hx; exact ⟨by omega, by omega, z3⟩⟩
theorem isK_ne8 {i : Nat} {kind : Int} {s : List UInt8} (h : isK L i kind s = true) (hk : kind ≠ 8) : (tkN L i).kind ≠ 8 := by
  unfold isK at h
  simp only [Bool.and_eq_true, decide_eq_true_eq] at h
  rw [h.1]; exact hk
theorem sign_ok {s : List UInt8} {i j : Nat} (h : signR L s i = .ok j) : j = i + 1 := by
  unfold signR at h; split at h
  · cases h; rfl
  · cases h
theorem taken_ok {kind : Int} {right : List UInt8 → Bool} {i j : Nat} (h : takenR L kind right i = .ok j) : j = i + 1 ∧ right (tkN L i).text = true := by
  unfold takenR at h
  split at h
  · split at h
    · rename_i hr; cases h; exact ⟨rfl, hr⟩
    · cases h
  · cases h
theorem del_ok {kind what : Int} {before : List UInt8} {right : List UInt8 → Bool} {i j : Nat} {ds : List DefT} (h : delR L kind what before right i = .ok (j, ds)) (h8 : (tkN L i).kind ≠ 8) : i < j ∧ Asc L i j ds ∧ ∃ d, ds = [d] ∧ d.kind = kind := by
  unfold delR at h
  cases h1 : takenR L what right (i + 1) with
  | error e => rw [h1] at h; cases h
  | ok m =>
    rw [h1] at h
    simp only at h
    cases h2 : signR L [59] m with
    | error e => rw [h2] at h; cases h
    | ok q =>
      rw [h2] at h
      have e1 := (taken_ok h1).1
      have e2 := sign_ok h2
      cases h
      exact ⟨by omega, Asc.one (k := i) ⟨rfl, rfl⟩ (Nat.le_refl _) (by omega) h8, _, rfl, rfl⟩
end
end Go.Proofs.YtofhcgbihonckaaGreat
namespace Go.Proofs.YtofhcgbihonckaaGreat
open Go.RowKit
section
variable {L : List Tok}
theorem prim_lt {i : Nat} (h : (primX L i).2.2 = 0) : i < (primX L i).2.1.toNat := by
  unfold primX at h ⊢
  obtain ⟨r, e1, e2⟩ := ev_total (L.map tkX) (40 * (L.map tkX).length + 40) .prim 0 i trivial (by simp only [fuelW]; omega)
  have hE : evF (L.map tkX) .prim 0 i = r := by unfold evF; rw [e1]; rfl
  rw [hE] at h ⊢
  cases r with
  | none => simp [outT] at h
  | some q =>
    have hlt := (e2 q rfl).2 rfl
    obtain ⟨v, j, p, g, d⟩ := q
    simp only [outT] at h hlt ⊢
    cases p <;> cases g <;> cases d <;> simp at h ⊢
    exact hlt
theorem cells_lt : ∀ (n i : Nat) (acc cs : List CellT) (j : Nat), cellsR L n i acc = .ok (j, cs) → i < j := by
  intro n
  induction n with
  | zero => intro i acc cs j h; cases h
  | succ n ih =>
    intro i acc cs j h
    rw [cellsR] at h
    split at h
    · cases h; omega
    · split at h
      · split at h
        · have := ih _ _ _ _ h; omega
        · cases h
      · split at h
        · cases h
        · rename_i hz
          have h0 := prim_lt (L := L) (i := i) (by simpa using hz)
          have := ih _ _ _ _ h; omega
theorem bytes_lt : ∀ (n i : Nat) (acc b : List UInt8) (j : Nat), bytesR L n i acc = .ok (j, b) → i < j := by
  intro n
  induction n with
  | zero => intro i acc b j h; cases h
  | succ n ih =>
    intro i acc b j h
    rw [bytesR] at h
    split at h
    · cases h; omega
    · split at h
      · cases h
      · split at h
        · cases h
        · have := ih _ _ _ _ h; omega
theorem part_lt {i j : Nat} {p : PartT} (h : partR L i = .ok (j, p)) : i < j := by
  unfold partR at h
  split at h
  · cases h; omega
  · split at h
    · split at h
      · cases h; omega
      · cases h
    · split at h
      · cases hc : cellsR L (fuelP L) (i + 1) [] with
        | error e => rw [hc] at h; cases h
        | ok q => rw [hc] at h; obtain ⟨m, cs⟩ := q; have := cells_lt _ _ _ _ _ hc; cases h; omega
      · split at h
        · cases hc : bytesR L (fuelP L) (i + 1) [] with
          | error e => rw [hc] at h; cases h
          | ok q => rw [hc] at h; obtain ⟨m, cs⟩ := q; have := bytes_lt _ _ _ _ _ hc; cases h; omega
        · cases h
theorem parts_le : ∀ (n : Nat) (sep : List UInt8) (i : Nat) (acc ps : List PartT) (j : Nat), partsR L n sep i acc = .ok (j, ps) → i ≤ j := by
  intro n
  induction n with
  | zero => intro sep i acc ps j h; cases h
  | succ n ih =>
    intro sep i acc ps j h
    rw [partsR] at h
    split at h
    · cases hp : partR L (i + 1) with
      | error e => rw [hp] at h; cases h
      | ok q =>
        rw [hp] at h
        obtain ⟨m, p⟩ := q
        have h1 := part_lt hp
        have := ih _ _ _ _ _ h
        omega
    · cases h; omega
def BodyP (L : List Tok) (n : Nat) : Prop := ∀ d dp i j ds, srcE L n (.body d dp) i = .ok (j, ds) → ∃ rest, ds = d :: rest ∧ i < j ∧ Asc L i j rest ∧ ∀ e, dptT (e + 1) rest = some e
def MemsP (L : List Tok) (n : Nat) : Prop := ∀ dp acc i j ds, srcE L n (.mems dp acc) i = .ok (j, ds) → ∃ rest, ds = acc ++ rest ∧ i < j ∧ Asc L i j rest ∧ ∀ e, dptT (e + 1) rest = some e
def MembP (L : List Tok) (n : Nat) : Prop := ∀ dp i j ds, srcE L n (.member dp) i = .ok (j, ds) → i < j ∧ Asc L i j ds ∧ ∀ e, dptT (e + 1) ds = some (e + 1)
def NamdP (L : List Tok) (n : Nat) : Prop := ∀ dp i j ds, srcE L n (.named dp) i = .ok (j, ds) → (tkN L i).kind = 1 → i < j ∧ Asc L i j ds ∧ ∀ e, dptT (e + 1) ds = some (e + 1)
theorem node_in {d : DefT} {s : List UInt8} {rest : List DefT} {e : Nat} (hk : d.kind = 1) (hn : d.name = ⟨s.toArray⟩) (hs : nameT s = true) (hr : dptT (e + 1 + 1) rest = some (e + 1)) : dptT (e + 1) (d :: rest) = some (e + 1) := by
  obtain ⟨h1, h2⟩ := name_top hs
  have : stT (e + 1) d = some (e + 1 + 1) := by
    unfold stT
    rw [if_pos hk, hn, if_pos ⟨h1, by rw [h2]; simp⟩]
  simp only [dptT, this, Option.bind_some]
  exact hr
theorem src_pairs (L : List Tok) : ∀ n, BodyP L n ∧ MemsP L n ∧ MembP L n ∧ NamdP L n := by
  intro n
  induction n with
  | zero => exact ⟨fun d dp i j ds h => (by cases h), fun dp acc i j ds h => (by cases h), fun dp i j ds h => (by cases h), fun dp i j ds h _ => (by cases h)⟩
  | succ n ih =>
    obtain ⟨hB, hM, hm, hN⟩ := ih
    refine ⟨fun d dp i j ds h => ?_, fun dp acc i j ds h => ?_, fun dp i j ds h => ?_, fun dp i j ds h h1k => ?_⟩
    · rw [srcE] at h
      split at h
      · split at h
        · cases h
        · obtain ⟨rest, e1, h1, h2, h3⟩ := hM _ _ _ _ _ h
          exact ⟨rest, e1, by omega, h2.wide (by omega) (Nat.le_refl _), h3⟩
      · cases h
    · rw [srcE] at h
      split at h
      · rename_i hk
        cases h
        exact ⟨_, rfl, by omega, Asc.one (k := i) ⟨rfl, rfl⟩ (Nat.le_refl _) (by omega) (isK_ne8 hk (by decide)), fun e => rfl⟩
      · cases h1 : srcE L n (.member dp) i with
        | error e => rw [h1] at h; cases h
        | ok q =>
          rw [h1] at h
          obtain ⟨m, xs⟩ := q
          obtain ⟨a1, a2, a3⟩ := hm _ _ _ _ h1
          obtain ⟨rest, e1, b1, b2, b3⟩ := hM _ _ _ _ _ h
          refine ⟨xs ++ rest, by rw [e1, List.append_assoc], by omega, a2.app b2 (Nat.le_refl _) (by omega) (by omega), fun e => ?_⟩
          rw [dpt_app, a3 e]
          exact b3 e
    · rw [srcE] at h
      split at h
      · rename_i h5k
        cases h1 : takenR L 5 labelT i with
        | error e => rw [h1] at h; cases h
        | ok a =>
          rw [h1] at h
          simp only at h
          cases h2 : takenR L 1 nameT a with
          | error e => rw [h2] at h; cases h
          | ok b =>
            rw [h2] at h
            simp only at h
            obtain ⟨r1, _⟩ := taken_ok h1
            obtain ⟨r2, r3⟩ := taken_ok h2
            cases h3 : srcE L n (.body ⟨1, txN L i, txN L a, [], (tkN L i).line, (tkN L i).col⟩ (dp + 1)) b with
            | error e => rw [h3] at h; cases h
            | ok q =>
              rw [h3] at h
              obtain ⟨m, xs⟩ := q
              simp only at h
              obtain ⟨rest, e1, b1, b2, b3⟩ := hB _ _ _ _ _ h3
              cases h4 : signR L [59] m with
              | error e => rw [h4] at h; cases h
              | ok q =>
                rw [h4] at h
                have e2 := sign_ok h4
                cases h
                subst e1
                refine ⟨by omega, ?_, fun e => node_in rfl rfl r3 (b3 (e + 1))⟩
                exact (Asc.one (k := i) (hi := i + 1) ⟨rfl, rfl⟩ (Nat.le_refl _) (by omega) (by rw [h5k]; decide)).app (b2.wide (Nat.le_refl _) (by omega)) (by omega) (by omega) (by omega)
      · split at h
        · rename_i h1k
          cases h1 : srcE L n (.named dp) i with
          | error e => rw [h1] at h; cases h
          | ok q =>
            rw [h1] at h
            obtain ⟨m, xs⟩ := q
            simp only at h
            obtain ⟨a1, a2, a3⟩ := hN _ _ _ _ h1 h1k
            cases h4 : signR L [59] m with
            | error e => rw [h4] at h; cases h
            | ok q =>
              rw [h4] at h
              have e2 := sign_ok h4
              cases h
              exact ⟨by omega, a2.wide (Nat.le_refl _) (by omega), a3⟩
        · split at h
          · rename_i hkk
            obtain ⟨a1, a2, d, rfl, a3⟩ := del_ok h (isK_ne8 hkk (by decide))
            exact ⟨a1, a2, fun e => by simp [dptT, stT, a3]⟩
          · split at h
            · rename_i hkk
              obtain ⟨a1, a2, d, rfl, a3⟩ := del_ok h (isK_ne8 hkk (by decide))
              exact ⟨a1, a2, fun e => by simp [dptT, stT, a3]⟩
            · cases h
    · rw [srcE] at h
      split at h
      · split at h
        · rename_i hs
          obtain ⟨rest, e1, b1, b2, b3⟩ := hB _ _ _ _ _ h
          subst e1
          refine ⟨by omega, ?_, fun e => node_in rfl rfl hs (b3 (e + 1))⟩
          exact (Asc.one (k := i) (hi := i + 1) ⟨rfl, rfl⟩ (Nat.le_refl _) (by omega) (by rw [h1k]; decide)).app b2 (by omega) (by omega) (by omega)
        · cases h
      · split at h
        · cases h1 : partsR L (fuelP L) [61] (i + 1) [] with
          | error e => rw [h1] at h; cases h
          | ok q =>
            rw [h1] at h
            obtain ⟨m, ps⟩ := q
            have := parts_le _ _ _ _ _ _ h1
            cases h
            exact ⟨by omega, Asc.one (k := i) ⟨rfl, rfl⟩ (Nat.le_refl _) (by omega) (by rw [h1k]; decide), fun e => by simp [dptT, stT]⟩
        · cases h
end
end Go.Proofs.YtofhcgbihonckaaGreat
namespace Go.Proofs.YtofhcgbihonckaaGreat
open Go.RowKit
section
variable {L : List Tok}
theorem node_top {d : DefT} {rest : List DefT} (hk : d.kind = 1) (hn : d.name ≠ ⟨#[]⟩) (ht : topB d.name = true) (hr : dptT (0 + 1) rest = some 0) : dptT 0 (d :: rest) = some 0 := by
  have : stT 0 d = some (0 + 1) := by
    unfold stT
    rw [if_pos hk, if_pos ⟨hn, by rw [ht]; rfl⟩]
  simp only [dptT, this, Option.bind_some]
  exact hr
theorem end_pairs {d : DefT} {i j k lo : Nat} {ds : List DefT} (h : endR L d i = .ok (j, ds)) (hk : d.kind = 1) (hn : d.name ≠ ⟨#[]⟩) (ht : topB d.name = true) (hp : d.line = (tkN L k).line ∧ d.col = (tkN L k).col) (h1 : lo ≤ k) (h2 : k < i) (h8 : (tkN L k).kind ≠ 8) : i < j ∧ Asc L lo j ds ∧ dptT 0 ds = some 0 := by
  unfold endR at h
  cases h3 : srcE L (fuelS L) (.body d 0) i with
  | error e => rw [h3] at h; cases h
  | ok q =>
    rw [h3] at h
    obtain ⟨m, xs⟩ := q
    simp only at h
    obtain ⟨rest, e1, b1, b2, b3⟩ := (src_pairs L (fuelS L)).1 _ _ _ _ _ h3
    cases h4 : signR L [59] m with
    | error e => rw [h4] at h; cases h
    | ok q =>
      rw [h4] at h
      have e2 := sign_ok h4
      cases h
      subst e1
      exact ⟨by omega, (Asc.one (k := k) (hi := k + 1) hp h1 (by omega) h8).app (b2.wide (Nat.le_refl _) (by omega)) (by omega) (by omega) (by omega), node_top hk hn ht (b3 0)⟩
theorem amp_top (s : List UInt8) : (⟨(38 :: s).toArray⟩ : ByteArray) ≠ ⟨#[]⟩ ∧ topB ⟨(38 :: s).toArray⟩ = true := by
  refine ⟨fun e => ?_, ?_⟩
  · have := congrArg (fun b : ByteArray => b.data.toList.length) e
    simp at this
  · unfold topB
    have : (⟨(38 :: s).toArray⟩ : ByteArray).data.toList.head? = some 38 := by simp
    rw [decide_eq_true this, Bool.or_true]
theorem top_pairs {i j : Nat} {ds : List DefT} (h : topR L i = .ok (j, ds)) : i < j ∧ Asc L i j ds ∧ dptT 0 ds = some 0 := by
  have hroot : (⟨#[47]⟩ : ByteArray) ≠ ⟨#[]⟩ ∧ topB ⟨#[47]⟩ = true := by decide
  unfold topR at h
  split at h
  · rename_i h5k
    cases h1 : takenR L 5 labelT i with
    | error e => rw [h1] at h; cases h
    | ok a =>
      rw [h1] at h
      simp only at h
      have r1 := (taken_ok h1).1
      cases h2 : signR L [47] a with
      | error e => rw [h2] at h; cases h
      | ok b =>
        rw [h2] at h
        have r2 := sign_ok h2
        obtain ⟨a1, a2, a3⟩ := end_pairs (k := i) (lo := i) h rfl hroot.1 hroot.2 ⟨rfl, rfl⟩ (Nat.le_refl _) (by omega) (by rw [h5k]; decide)
        exact ⟨by omega, a2, a3⟩
  · split at h
    · rename_i hkk
      obtain ⟨a1, a2, a3⟩ := end_pairs (k := i) (lo := i) h rfl hroot.1 hroot.2 ⟨rfl, rfl⟩ (Nat.le_refl _) (by omega) (isK_ne8 hkk (by decide))
      exact ⟨by omega, a2, a3⟩
    · split at h
      · rename_i h6k
        cases h1 : takenR L 6 labelT i with
        | error e => rw [h1] at h; cases h
        | ok a =>
          rw [h1] at h
          have r1 := (taken_ok h1).1
          have hamp := amp_top (tkN L i).text
          obtain ⟨a1, a2, a3⟩ := end_pairs (k := i) (lo := i) h rfl hamp.1 hamp.2 ⟨rfl, rfl⟩ (Nat.le_refl _) (by omega) (by rw [h6k]; decide)
          exact ⟨by omega, a2, a3⟩
      · split at h
        · rename_i hkk
          obtain ⟨a1, a2, d, rfl, a3⟩ := del_ok h (isK_ne8 hkk (by decide))
          exact ⟨a1, a2, by simp [dptT, stT, a3]⟩
        · split at h
          · rename_i hkk
            obtain ⟨a1, a2, d, rfl, a3⟩ := del_ok h (isK_ne8 hkk (by decide))
            exact ⟨a1, a2, by simp [dptT, stT, a3]⟩
          · cases h
theorem tops_pairs : ∀ (n i : Nat) (acc D : List DefT), topsR L n i acc = .ok D → Asc L 0 i acc → dptT 0 acc = some 0 → ∃ hi, Asc L 0 hi D ∧ dptT 0 D = some 0 := by
  intro n
  induction n with
  | zero => intro i acc D h; cases h
  | succ n ih =>
    intro i acc D h ha hd
    rw [topsR] at h
    split at h
    · cases h; exact ⟨i, ha, hd⟩
    · cases h1 : topR L i with
      | error e => rw [h1] at h; cases h
      | ok q =>
        rw [h1] at h
        obtain ⟨j, ds⟩ := q
        obtain ⟨a1, a2, a3⟩ := top_pairs h1
        exact ih _ _ _ h (ha.app a2 (Nat.le_refl _) (by omega) (by omega)) (by rw [dpt_app, hd]; exact a3)
end
theorem src_law (l : List UInt8) (file : Int) : ((srcT l file).2.2 = 0 ∧ dptT 0 (srcT l file).1 = some 0 ∧ ∃ hi, Asc (readT l file).1 0 hi (srcT l file).1 ∧ (readT l file).2.2 = 0) ∨ ((srcT l file).2.2 ≠ 0 ∨ (srcT l file).1 = []) := by
  unfold srcT
  split
  · exact .inr (.inr rfl)
  · rename_i h0
    cases h : topsR (readT l file).1 (fuelP (readT l file).1) 0 [] with
    | error e => exact .inr (.inr rfl)
    | ok D =>
      obtain ⟨hi, a1, a2⟩ := tops_pairs _ _ _ _ h (Asc.nil _ _) rfl
      exact .inl ⟨rfl, a2, hi, a1, by simpa using h0⟩
end Go.Proofs.YtofhcgbihonckaaGreat
