/- Contracts of tree: Property, depth, what Check asks of properties. | What Read of source computes, in plain Lean. | Plain laws: bodies within bodies; the chapter's example. -/
import Derived.Test.YtofhcgbihonckaaZ7
import Derived.Test.YtofhcgbihonckaaZ8
import Derived.Deep.LoopGhost
import Derived.IntWalk
import Derived.Test.YtofhcgbihonckaaZ3
import Derived.Test.YtofhcgbihonckaaZ6

set_option linter.unusedVariables false
set_option linter.unusedSimpArgs false
set_option linter.unusedSectionVars false

namespace Go.Proofs.Ytofhcgbihonckaa
open Go.RowKit

theorem drop_data (s : ByteArray) (a : Nat) : (s.extract a s.size).data.toList = s.data.toList.drop a := by
  simp [ByteArray.data_extract, Array.toList_extract, List.extract_eq_take_drop]
  try exact List.take_of_length_le (by simp)
theorem memB_idx (l : List UInt8) (b : UInt8) : decide (0 ≤ Lib.indexByte l b) = memB l b.toNat := idx_byte l b
theorem adds_of' (a b : ByteArray) (h : a.size + b.size ≤ 9223372036854775807) : ∃ c : ByteArray, (∀ wx, (Op.stringOp .add a b).run Try.prog wx = .ok (.string c) wx) ∧ c.size = a.size + b.size ∧ c.data.toList = a.data.toList ++ b.data.toList := by
  refine ⟨a ++ b, fun wx => ?_, by simp, by simp⟩
  simp only [Op.stringOp]
  rw [if_neg (by simp [IntKind.max, IntKind.signed, IntKind.bits]; omega)]
  rfl

set_option maxHeartbeats 800000 in
theorem tree_Property (s : ByteArray) (w : World) (hs : s.size ≤ 9223372036854775807) :
    Calls Try.prog 74 #[.string s] w fun e w' => e = .returned (.bool (propB s)) ∧ w = w' := by
  have hH := fun wx => Try.strings_HasPrefix s ⟨#[35]⟩ wx
  have hF := Lib.hid (show propB s = propT s.data.toList from rfl)
  by_cases h : Lib.hasPrefix s.data.toList [35] = true
  · have hpl := Lib.hasPrefix_le h
    simp only [List.length_cons, List.length_nil] at hpl
    have hs1 : 1 ≤ s.size := by simpa using hpl
    have hH2 : Lib.hasPrefix s.data.toList (⟨#[35]⟩ : ByteArray).data.toList = true := h
    rw [hH2] at hH
    have HH := Lib.hid hH; clear hH hH2
    have hx : (s.extract 1 s.size).size = s.size - 1 := by simp
    obtain ⟨c, hadd, hcs, hcd⟩ := adds_of' ⟨#[95]⟩ (s.extract 1 s.size) (by rw [show (⟨#[95]⟩ : ByteArray).size = 1 from rfl]; omega)
    rw [show (⟨#[95]⟩ : ByteArray).size = 1 from rfl] at hcs
    have hcl : c.data.toList = 95 :: s.data.toList.drop 1 := by rw [hcd, drop_data]; rfl
    have hN := fun wx => token_Name c wx (by unfold maxLen; omega)
    have hC := fun wx => Try.strings_Contains_one c 64 wx
    rw [memB_idx, hcl] at hC
    rw [hcl] at hN
    have HF : Hid (propB s = (nameT (95 :: s.data.toList.drop 1) && !memB (95 :: s.data.toList.drop 1) 64)) := by show _ = _; rw [hF.out]; unfold propT; rw [if_pos h]
    have HN := Lib.hid hN; clear hN
    have HC := Lib.hid hC; clear hC
    clear h hF hcd hcl hpl
    cases hy : nameT (95 :: s.data.toList.drop 1) with
    | true =>
      rw [hy] at HN HF
      clear hy
      go_enter Try.func74, Try.ntmps74
      go_wp2_with fail
      refine (HH.out _).mono ?_
      rintro e w' ⟨rfl, rfl⟩
      go_wp2_with fail
      refine (HN.out _).mono ?_
      rintro e w' ⟨rfl, rfl⟩
      go_wp2_with fail
      refine (HC.out _).mono ?_
      rintro e w' ⟨rfl, rfl⟩
      go_wp2_with fail
      go_ret
      exact ⟨ret_bool (by rw [HF.out]; simp), rfl⟩
    | false =>
      rw [hy] at HN HF
      clear hy
      go_enter Try.func74, Try.ntmps74
      go_wp2_with fail
      refine (HH.out _).mono ?_
      rintro e w' ⟨rfl, rfl⟩
      go_wp2_with fail
      refine (HN.out _).mono ?_
      rintro e w' ⟨rfl, rfl⟩
      go_wp2_with fail
      go_ret
      exact ⟨ret_bool (by rw [HF.out]; simp), rfl⟩
  · have h : Lib.hasPrefix s.data.toList [35] = false := by simpa using h
    have hH2 : Lib.hasPrefix s.data.toList (⟨#[35]⟩ : ByteArray).data.toList = false := h
    rw [hH2] at hH
    have HH := Lib.hid hH; clear hH hH2
    have hN := fun wx => token_Name s wx (by unfold maxLen; omega)
    have hC := fun wx => Try.strings_Contains_one s 64 wx
    rw [memB_idx] at hC
    have HF : Hid (propB s = (nameT s.data.toList && !memB s.data.toList 64)) := by show _ = _; rw [hF.out]; unfold propT; rw [if_neg (by simp [h])]
    have HN := Lib.hid hN; clear hN
    have HC := Lib.hid hC; clear hC
    clear h hF
    cases hy : nameT s.data.toList with
    | true =>
      rw [hy] at HN HF
      clear hy
      go_enter Try.func74, Try.ntmps74
      go_wp2_with fail
      refine (HH.out _).mono ?_
      rintro e w' ⟨rfl, rfl⟩
      go_wp2_with fail
      refine (HN.out _).mono ?_
      rintro e w' ⟨rfl, rfl⟩
      go_wp2_with fail
      refine (HC.out _).mono ?_
      rintro e w' ⟨rfl, rfl⟩
      go_wp2_with fail
      go_ret
      exact ⟨ret_bool (by rw [HF.out]; simp), rfl⟩
    | false =>
      rw [hy] at HN HF
      clear hy
      go_enter Try.func74, Try.ntmps74
      go_wp2_with fail
      refine (HH.out _).mono ?_
      rintro e w' ⟨rfl, rfl⟩
      go_wp2_with fail
      refine (HN.out _).mono ?_
      rintro e w' ⟨rfl, rfl⟩
      go_wp2_with fail
      go_ret
      exact ⟨ret_bool (by rw [HF.out]; simp), rfl⟩

end Go.Proofs.Ytofhcgbihonckaa

namespace Go.Proofs.Ytofhcgbihonckaa
open Go.RowKit

structure CellT where
  value : Int
  label : ByteArray
structure PartT where
  kind : Int
  cells : List CellT
  text : ByteArray
structure DefT where
  kind : Int
  label : ByteArray
  name : ByteArray
  parts : List PartT
  line : Int
  col : Int
/-- What reading gives: a place and what was read; or the number of a token and an error. -/
abbrev Rs (α : Type) := Except (Nat × Int) α
section
variable (L : List Tok)
def tkN (i : Nat) : Tok := L.getD i ⟨8, [], 0, 0, 0⟩
def txN (i : Nat) : ByteArray := ⟨(tkN L i).text.toArray⟩
def isK (i : Nat) (kind : Int) (text : List UInt8) : Bool := decide ((tkN L i).kind = kind) && (text.isEmpty || decide ((tkN L i).text = text))
def signR (s : List UInt8) (i : Nat) : Rs Nat := if isK L i 4 s = true then .ok (i + 1) else .error (i, 6)
def takenR (kind : Int) (right : List UInt8 → Bool) (i : Nat) : Rs Nat := if (tkN L i).kind = kind then (if right (tkN L i).text = true then .ok (i + 1) else .error (i, 1)) else .error (i, 6)
def primX (i : Nat) : Int × Int × Int := outT (evF (L.map tkX) .prim 0 i)
def bytesR : Nat → Nat → List UInt8 → Rs (Nat × List UInt8)
  | 0, i, _ => .error (i, 6)
  | n + 1, i, acc =>
    if isK L i 4 [93] = true then .ok (i + 1, acc)
    else if (tkN L i).kind ≠ 2 then .error (i, 6)
    else if 255 < (tkN L i).value then .error (i, 2)
    else bytesR n (i + 1) (acc ++ [((tkN L i).value % 256).toNat.toUInt8])
def cellsR : Nat → Nat → List CellT → Rs (Nat × List CellT)
  | 0, i, _ => .error (i, 6)
  | n + 1, i, acc =>
    if isK L i 4 [62] = true then .ok (i + 1, acc)
    else if (tkN L i).kind = 6 then (if labelT (tkN L i).text = true then cellsR n (i + 1) (acc ++ [⟨0, txN L i⟩]) else .error (i, 1))
    else if (primX L i).2.2 ≠ 0 then .error (i, (primX L i).2.2) else cellsR n (primX L i).2.1.toNat (acc ++ [⟨(primX L i).1, ⟨#[]⟩⟩])
/-- A fuel that suffices for what lies within a part. -/
def fuelP : Nat := L.length + 1
def partR (i : Nat) : Rs (Nat × PartT) :=
  if (tkN L i).kind = 3 then .ok (i + 1, ⟨2, [], txN L i⟩)
  else if (tkN L i).kind = 6 then (if labelT (tkN L i).text = true then .ok (i + 1, ⟨4, [], txN L i⟩) else .error (i, 1))
  else if isK L i 4 [60] = true then (match cellsR L (fuelP L) (i + 1) [] with
    | .ok (j, cs) => .ok (j, ⟨1, cs, ⟨#[]⟩⟩)
    | .error e => .error e)
  else if isK L i 4 [91] = true then (match bytesR L (fuelP L) (i + 1) [] with
    | .ok (j, b) => .ok (j, ⟨3, [], ⟨b.toArray⟩⟩)
    | .error e => .error e)
  else .error (i, 6)
def partsR : Nat → List UInt8 → Nat → List PartT → Rs (Nat × List PartT)
  | 0, _, i, _ => .error (i, 6)
  | n + 1, sep, i, acc =>
    if isK L i 4 sep = true then (match partR L (i + 1) with
      | .ok (j, p) => partsR n [44] j (acc ++ [p])
      | .error e => .error e)
    else .ok (i, acc)
/-- A deletion. -/
def delR (kind what : Int) (before : List UInt8) (right : List UInt8 → Bool) (i : Nat) : Rs (Nat × List DefT) :=
  match takenR L what right (i + 1) with
  | .error e => .error e
  | .ok j => match signR L [59] j with
    | .error e => .error e
    | .ok k => .ok (k, [⟨kind, ⟨#[]⟩, ⟨(before ++ (tkN L (i + 1)).text).toArray⟩, [], (tkN L i).line, (tkN L i).col⟩])
inductive Md where
  | body : DefT → Nat → Md
  | mems : Nat → List DefT → Md
  | member : Nat → Md
  | named : Nat → Md
/-- A body, its members, one member, one that begins with its name. -/
def srcE : Nat → Md → Nat → Rs (Nat × List DefT)
  | 0, _, i => .error (i, 6)
  | n + 1, .body d dp, i =>
    if isK L i 4 [123] = true then (if 8 < dp then .error (i, 3) else srcE n (.mems dp [d]) (i + 1)) else .error (i, 6)
  | n + 1, .mems dp acc, i =>
    if isK L i 4 [125] = true then .ok (i + 1, acc ++ [⟨2, ⟨#[]⟩, ⟨#[]⟩, [], (tkN L i).line, (tkN L i).col⟩])
    else (match srcE n (.member dp) i with
      | .error e => .error e
      | .ok (j, ds) => srcE n (.mems dp (acc ++ ds)) j)
  | n + 1, .member dp, i =>
    if (tkN L i).kind = 5 then (match takenR L 5 labelT i with
      | .error e => .error e
      | .ok j => match takenR L 1 nameT j with
        | .error e => .error e
        | .ok k => match srcE n (.body ⟨1, txN L i, txN L j, [], (tkN L i).line, (tkN L i).col⟩ (dp + 1)) k with
          | .error e => .error e
          | .ok (m, ds) => match signR L [59] m with
            | .error e => .error e
            | .ok q => .ok (q, ds))
    else if (tkN L i).kind = 1 then (match srcE n (.named dp) i with
      | .error e => .error e
      | .ok (m, ds) => match signR L [59] m with
        | .error e => .error e
        | .ok q => .ok (q, ds))
    else if isK L i 7 [100, 101, 108, 101, 116, 101, 45, 112, 114, 111, 112, 101, 114, 116, 121] = true then delR L 4 1 [] propT i
    else if isK L i 7 [100, 101, 108, 101, 116, 101, 45, 110, 111, 100, 101] = true then delR L 5 1 [] nameT i
    else .error (i, 6)
  | n + 1, .named dp, i =>
    if isK L (i + 1) 4 [123] = true then
      (if nameT (tkN L i).text = true then srcE n (.body ⟨1, ⟨#[]⟩, txN L i, [], (tkN L i).line, (tkN L i).col⟩ (dp + 1)) (i + 1) else .error (i, 1))
    else if propT (tkN L i).text = true then (match partsR L (fuelP L) [61] (i + 1) [] with
      | .error e => .error e
      | .ok (j, ps) => .ok (j, [⟨3, ⟨#[]⟩, txN L i, ps, (tkN L i).line, (tkN L i).col⟩]))
    else .error (i, 1)
/-- A fuel that suffices for a body. -/
def fuelS : Nat := 3 * L.length + 3
/-- A body and the sign behind it. -/
def endR (d : DefT) (i : Nat) : Rs (Nat × List DefT) :=
  match srcE L (fuelS L) (.body d 0) i with
  | .error e => .error e
  | .ok (m, ds) => match signR L [59] m with
    | .error e => .error e
    | .ok q => .ok (q, ds)
def topR (i : Nat) : Rs (Nat × List DefT) :=
  if (tkN L i).kind = 5 then (match takenR L 5 labelT i with
    | .error e => .error e
    | .ok j => match signR L [47] j with
      | .error e => .error e
      | .ok k => endR L ⟨1, txN L i, ⟨#[47]⟩, [], (tkN L i).line, (tkN L i).col⟩ k)
  else if isK L i 4 [47] = true then endR L ⟨1, ⟨#[]⟩, ⟨#[47]⟩, [], (tkN L i).line, (tkN L i).col⟩ (i + 1)
  else if (tkN L i).kind = 6 then (match takenR L 6 labelT i with
    | .error e => .error e
    | .ok j => endR L ⟨1, ⟨#[]⟩, ⟨(38 :: (tkN L i).text).toArray⟩, [], (tkN L i).line, (tkN L i).col⟩ j)
  else if isK L i 7 [105, 110, 99, 108, 117, 100, 101] = true then delR L 6 3 [] (fun _ => true) i
  else if isK L i 7 [100, 101, 108, 101, 116, 101, 45, 110, 111, 100, 101] = true then delR L 5 6 [38] labelT i
  else .error (i, 6)
def topsR : Nat → Nat → List DefT → Rs (List DefT)
  | 0, i, _ => .error (i, 6)
  | n + 1, i, acc =>
    if (tkN L i).kind = 8 then .ok acc
    else (match topR L i with
      | .error e => .error e
      | .ok (j, ds) => topsR n j (acc ++ ds))
end
/-- What Read of source answers: the definitions, the place of the error, the error. -/
def srcT (l : List UInt8) (file : Int) : List DefT × (Int × Int × Int) × Int :=
  if (readT l file).2.2 ≠ 0 then ([], (readT l file).2.1, (readT l file).2.2)
  else match topsR (readT l file).1 (fuelP (readT l file).1) 0 [] with
    | .ok D => (D, (0, 0, 0), 0)
    | .error (k, c) => ([], (file, (tkN (readT l file).1 k).line, (tkN (readT l file).1 k).col), c)
end Go.Proofs.Ytofhcgbihonckaa

namespace Go.Proofs.Ytofhcgbihonckaa
open Go.RowKit

def opT : Nat → List UInt8
  | 0 => [47, 32, 123]
  | n + 1 => opT n ++ [97, 123]
def clT : Nat → Nat → List UInt8
  | k, 0 => opT k
  | k, n + 1 => clT k n ++ [125, 59]
def dpT (k : Nat) : List UInt8 := clT k k ++ [125, 59]
theorem dep_plain : ∀ k, k < 14 → (srcT (dpT k) 4).2.2 = (if k ≤ 8 then 0 else 3) ∧ (srcT (dpT k) 4).2.1 = (if k ≤ 8 then (0, 0, 0) else (4, 1, 21)) := by
  intro k hk
  have hc : k = 0 ∨ k = 1 ∨ k = 2 ∨ k = 3 ∨ k = 4 ∨ k = 5 ∨ k = 6 ∨ k = 7 ∨ k = 8 ∨ k = 9 ∨ k = 10 ∨ k = 11 ∨ k = 12 ∨ k = 13 := by omega
  rcases hc with rfl | rfl | rfl | rfl | rfl | rfl | rfl | rfl | rfl | rfl | rfl | rfl | rfl | rfl
  all_goals exact ⟨by kernel_rfl, by kernel_rfl⟩
theorem op_len : ∀ k, (opT k).length = 2 * k + 3 := by
  intro k
  induction k with
  | zero => rfl
  | succ k ih => simp [opT, ih]; omega
theorem cl_len (k : Nat) : ∀ n, (clT k n).length = 2 * k + 3 + 2 * n := by
  intro n
  induction n with
  | zero => simp [clT, op_len]
  | succ n ih => simp [clT, ih]; omega
/-- The chapter's example: / { a: b { x = <1 &a>, "t"; y; }; }; -/
def exT : List UInt8 := [47, 32, 123, 32, 97, 58, 32, 98, 32, 123, 32, 120, 32, 61, 32, 60, 49, 32, 38, 97, 62, 44, 32, 34, 116, 34, 59, 32, 121, 59, 32, 125, 59, 32, 125, 59]
theorem ex_plain : srcT exT 0 = ([⟨1, ⟨#[]⟩, ⟨#[47]⟩, [], 1, 1⟩, ⟨1, ⟨#[97]⟩, ⟨#[98]⟩, [], 1, 5⟩, ⟨3, ⟨#[]⟩, ⟨#[120]⟩, [⟨1, [⟨1, ⟨#[]⟩⟩, ⟨0, ⟨#[97]⟩⟩], ⟨#[]⟩⟩, ⟨2, [], ⟨#[116]⟩⟩], 1, 12⟩, ⟨3, ⟨#[]⟩, ⟨#[121]⟩, [], 1, 29⟩, ⟨2, ⟨#[]⟩, ⟨#[]⟩, [], 1, 32⟩, ⟨2, ⟨#[]⟩, ⟨#[]⟩, [], 1, 35⟩], (0, 0, 0), 0) := by kernel_rfl
end Go.Proofs.Ytofhcgbihonckaa
