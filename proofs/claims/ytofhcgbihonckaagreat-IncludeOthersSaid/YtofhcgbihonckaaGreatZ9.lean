/- Contracts of tree: Property, depth, what Check asks of properties. | What Read of source computes, in plain Lean. | What Load of include answers, in plain Lean. | Plain laws: bodies within bodies; the chapter's example. | Plain laws: what Read of source answers has its nodes in pairs, and its places in order. | Plain laws: nodes in pairs, places in order: bodies and their members. | Plain laws: nodes in pairs, places in order: a whole text. -/
import Derived.Test.YtofhcgbihonckaaGreatZ7
import Derived.Test.YtofhcgbihonckaaGreatZ8
import Derived.Deep.LoopGhost
import Derived.IntWalk
import Derived.Test.YtofhcgbihonckaaGreatZ3
import Derived.Test.YtofhcgbihonckaaGreatZ6
import Derived.Test.YtofhcgbihonckaaGreatZ5

set_option linter.unusedVariables false
set_option linter.unusedSimpArgs false
set_option linter.unusedSectionVars false

namespace Go.Proofs.YtofhcgbihonckaaGreat
open Go.RowKit

theorem drop_data (s : ByteArray) (a : Nat) : (s.extract a s.size).data.toList = s.data.toList.drop a := by
  simp [ByteArray.data_extract, Array.toList_extract, List.extract_eq_take_drop]
  try exact List.take_of_length_le (by simp)
theorem memB_idx (l : List UInt8) (b : UInt8) : decide (0 ≤ Lib.indexByte l b) = memB l b.toNat := idx_byte l b
theorem adds_of' (a b : ByteArray) (h : a.size + b.size ≤ 9223372036854775807) : ∃ c : ByteArray, (∀ wx, (Op.stringOp .add a b).run Tryz.prog wx = .ok (.string c) wx) ∧ c.size = a.size + b.size ∧ c.data.toList = a.data.toList ++ b.data.toList := by
  refine ⟨a ++ b, fun wx => ?_, by simp, by simp⟩
  simp only [Op.stringOp]
  rw [if_neg (by simp [IntKind.max, IntKind.signed, IntKind.bits]; omega)]
  rfl

set_option maxHeartbeats 800000 in
theorem tree_Property (s : ByteArray) (w : World) (hs : s.size ≤ 9223372036854775807) :
    Calls Tryz.prog 125 #[.string s] w fun e w' => e = .returned (.bool (propB s)) ∧ w = w' := by
  have hH := fun wx => Tryz.strings_HasPrefix s ⟨#[35]⟩ wx
  have hF := Lib.hid (show propB s = propT s.data.toList from rfl)
  by_cases h : Lib.hasPrefix s.data.toList [35] = true
  · have hpl := Lib.hasPrefix_le h
    simp only [List.length_cons, List.length_nil] at hpl
    have hs1 : 1 ≤ s.size := by simpa using hpl
    have hH2 : Lib.hasPrefix s.data.toList (⟨#[35]⟩ : ByteArray).data.toList = true := h
    rw [hH2] at hH
    have HH := Lib.hid hH; clear hH hH2
    have hx : (s.extract 1 s.size).size = s.size - 1 := by simp
    obtain ⟨c, hadd, hcs, hcd⟩ := adds_of' ⟨#[95]⟩ (s.extract 1 s.size) (by rw [show (⟨#[95]⟩ : ByteArray).size = 1 from rfl]; omega)
    rw [show (⟨#[95]⟩ : ByteArray).size = 1 from rfl] at hcs
    have hcl : c.data.toList = 95 :: s.data.toList.drop 1 := by rw [hcd, drop_data]; rfl
    have hN := fun wx => token_Name c wx (by unfold maxLen; omega)
    have hC := fun wx => Tryz.strings_Contains_one c 64 wx
    rw [memB_idx, hcl] at hC
    rw [hcl] at hN
    have HF : Hid (propB s = (nameT (95 :: s.data.toList.drop 1) && !memB (95 :: s.data.toList.drop 1) 64)) := by show _ = _; rw [hF.out]; unfold propT; rw [if_pos h]
    have HN := Lib.hid hN; clear hN
    have HC := Lib.hid hC; clear hC
    clear h hF hcd hcl hpl
    cases hy : nameT (95 :: s.data.toList.drop 1) with
    | true =>
      rw [hy] at HN HF
      clear hy
      go_enter Tryz.func125, Tryz.ntmps125
      go_wp2_with fail
      refine (HH.out _).mono ?_
      rintro e w' ⟨rfl, rfl⟩
      go_wp2_with fail
      refine (HN.out _).mono ?_
      rintro e w' ⟨rfl, rfl⟩
      go_wp2_with fail
      refine (HC.out _).mono ?_
      rintro e w' ⟨rfl, rfl⟩
      go_wp2_with fail
      go_ret
      exact ⟨ret_bool (by rw [HF.out]; simp), rfl⟩
    | false =>
      rw [hy] at HN HF
      clear hy
      go_enter Tryz.func125, Tryz.ntmps125
      go_wp2_with fail
      refine (HH.out _).mono ?_
      rintro e w' ⟨rfl, rfl⟩
      go_wp2_with fail
      refine (HN.out _).mono ?_
      rintro e w' ⟨rfl, rfl⟩
      go_wp2_with fail
      go_ret
      exact ⟨ret_bool (by rw [HF.out]; simp), rfl⟩
  · have h : Lib.hasPrefix s.data.toList [35] = false := by simpa using h
    have hH2 : Lib.hasPrefix s.data.toList (⟨#[35]⟩ : ByteArray).data.toList = false := h
    rw [hH2] at hH
    have HH := Lib.hid hH; clear hH hH2
    have hN := fun wx => token_Name s wx (by unfold maxLen; omega)
    have hC := fun wx => Tryz.strings_Contains_one s 64 wx
    rw [memB_idx] at hC
    have HF : Hid (propB s = (nameT s.data.toList && !memB s.data.toList 64)) := by show _ = _; rw [hF.out]; unfold propT; rw [if_neg (by simp [h])]
    have HN := Lib.hid hN; clear hN
    have HC := Lib.hid hC; clear hC
    clear h hF
    cases hy : nameT s.data.toList with
    | true =>
      rw [hy] at HN HF
      clear hy
      go_enter Tryz.func125, Tryz.ntmps125
      go_wp2_with fail
      refine (HH.out _).mono ?_
      rintro e w' ⟨rfl, rfl⟩
      go_wp2_with fail
      refine (HN.out _).mono ?_
      rintro e w' ⟨rfl, rfl⟩
      go_wp2_with fail
      refine (HC.out _).mono ?_
      rintro e w' ⟨rfl, rfl⟩
      go_wp2_with fail
      go_ret
      exact ⟨ret_bool (by rw [HF.out]; simp), rfl⟩
    | false =>
      rw [hy] at HN HF
      clear hy
      go_enter Tryz.func125, Tryz.ntmps125
      go_wp2_with fail
      refine (HH.out _).mono ?_
      rintro e w' ⟨rfl, rfl⟩
      go_wp2_with fail
      refine (HN.out _).mono ?_
      rintro e w' ⟨rfl, rfl⟩
      go_wp2_with fail
      go_ret
      exact ⟨ret_bool (by rw [HF.out]; simp), rfl⟩

end Go.Proofs.YtofhcgbihonckaaGreat

namespace Go.Proofs.YtofhcgbihonckaaGreat
open Go.RowKit

structure CellT where
  value : Int
  label : ByteArray
structure PartT where
  kind : Int
  cells : List CellT
  text : ByteArray
structure DefT where
  kind : Int
  label : ByteArray
  name : ByteArray
  parts : List PartT
  line : Int
  col : Int
/-- What reading gives: a place and what was read; or the number of a token and an error. -/
abbrev Rs (α : Type) := Except (Nat × Int) α
section
variable (L : List Tok)
def tkN (i : Nat) : Tok := L.getD i ⟨8, [], 0, 0, 0⟩
def txN (i : Nat) : ByteArray := ⟨(tkN L i).text.toArray⟩
def isK (i : Nat) (kind : Int) (text : List UInt8) : Bool := decide ((tkN L i).kind = kind) && (text.isEmpty || decide ((tkN L i).text = text))
def signR (s : List UInt8) (i : Nat) : Rs Nat := if isK L i 4 s = true then .ok (i + 1) else .error (i, 6)
def takenR (kind : Int) (right : List UInt8 → Bool) (i : Nat) : Rs Nat := if (tkN L i).kind = kind then (if right (tkN L i).text = true then .ok (i + 1) else .error (i, 1)) else .error (i, 6)
def primX (i : Nat) : Int × Int × Int := outT (evF (L.map tkX) .prim 0 i)
def bytesR : Nat → Nat → List UInt8 → Rs (Nat × List UInt8)
  | 0, i, _ => .error (i, 6)
  | n + 1, i, acc =>
    if isK L i 4 [93] = true then .ok (i + 1, acc)
    else if (tkN L i).kind ≠ 2 then .error (i, 6)
    else if 255 < (tkN L i).value then .error (i, 2)
    else bytesR n (i + 1) (acc ++ [((tkN L i).value % 256).toNat.toUInt8])
def cellsR : Nat → Nat → List CellT → Rs (Nat × List CellT)
  | 0, i, _ => .error (i, 6)
  | n + 1, i, acc =>
    if isK L i 4 [62] = true then .ok (i + 1, acc)
    else if (tkN L i).kind = 6 then (if labelT (tkN L i).text = true then cellsR n (i + 1) (acc ++ [⟨0, txN L i⟩]) else .error (i, 1))
    else if (primX L i).2.2 ≠ 0 then .error (i, (primX L i).2.2) else cellsR n (primX L i).2.1.toNat (acc ++ [⟨(primX L i).1, ⟨#[]⟩⟩])
/-- A fuel that suffices for what lies within a part. -/
def fuelP : Nat := L.length + 1
def partR (i : Nat) : Rs (Nat × PartT) :=
  if (tkN L i).kind = 3 then .ok (i + 1, ⟨2, [], txN L i⟩)
  else if (tkN L i).kind = 6 then (if labelT (tkN L i).text = true then .ok (i + 1, ⟨4, [], txN L i⟩) else .error (i, 1))
  else if isK L i 4 [60] = true then (match cellsR L (fuelP L) (i + 1) [] with
    | .ok (j, cs) => .ok (j, ⟨1, cs, ⟨#[]⟩⟩)
    | .error e => .error e)
  else if isK L i 4 [91] = true then (match bytesR L (fuelP L) (i + 1) [] with
    | .ok (j, b) => .ok (j, ⟨3, [], ⟨b.toArray⟩⟩)
    | .error e => .error e)
  else .error (i, 6)
def partsR : Nat → List UInt8 → Nat → List PartT → Rs (Nat × List PartT)
  | 0, _, i, _ => .error (i, 6)
  | n + 1, sep, i, acc =>
    if isK L i 4 sep = true then (match partR L (i + 1) with
      | .ok (j, p) => partsR n [44] j (acc ++ [p])
      | .error e => .error e)
    else .ok (i, acc)
/-- A deletion. -/
def delR (kind what : Int) (before : List UInt8) (right : List UInt8 → Bool) (i : Nat) : Rs (Nat × List DefT) :=
  match takenR L what right (i + 1) with
  | .error e => .error e
  | .ok j => match signR L [59] j with
    | .error e => .error e
    | .ok k => .ok (k, [⟨kind, ⟨#[]⟩, ⟨(before ++ (tkN L (i + 1)).text).toArray⟩, [], (tkN L i).line, (tkN L i).col⟩])
inductive Md where
  | body : DefT → Nat → Md
  | mems : Nat → List DefT → Md
  | member : Nat → Md
  | named : Nat → Md
/-- A body, its members, one member, one that begins with its name. -/
def srcE : Nat → Md → Nat → Rs (Nat × List DefT)
  | 0, _, i => .error (i, 6)
  | n + 1, .body d dp, i =>
    if isK L i 4 [123] = true then (if 8 < dp then .error (i, 3) else srcE n (.mems dp [d]) (i + 1)) else .error (i, 6)
  | n + 1, .mems dp acc, i =>
    if isK L i 4 [125] = true then .ok (i + 1, acc ++ [⟨2, ⟨#[]⟩, ⟨#[]⟩, [], (tkN L i).line, (tkN L i).col⟩])
    else (match srcE n (.member dp) i with
      | .error e => .error e
      | .ok (j, ds) => srcE n (.mems dp (acc ++ ds)) j)
  | n + 1, .member dp, i =>
    if (tkN L i).kind = 5 then (match takenR L 5 labelT i with
      | .error e => .error e
      | .ok j => match takenR L 1 nameT j with
        | .error e => .error e
        | .ok k => match srcE n (.body ⟨1, txN L i, txN L j, [], (tkN L i).line, (tkN L i).col⟩ (dp + 1)) k with
          | .error e => .error e
          | .ok (m, ds) => match signR L [59] m with
            | .error e => .error e
            | .ok q => .ok (q, ds))
    else if (tkN L i).kind = 1 then (match srcE n (.named dp) i with
      | .error e => .error e
      | .ok (m, ds) => match signR L [59] m with
        | .error e => .error e
        | .ok q => .ok (q, ds))
    else if isK L i 7 [100, 101, 108, 101, 116, 101, 45, 112, 114, 111, 112, 101, 114, 116, 121] = true then delR L 4 1 [] propT i
    else if isK L i 7 [100, 101, 108, 101, 116, 101, 45, 110, 111, 100, 101] = true then delR L 5 1 [] nameT i
    else .error (i, 6)
  | n + 1, .named dp, i =>
    if isK L (i + 1) 4 [123] = true then
      (if nameT (tkN L i).text = true then srcE n (.body ⟨1, ⟨#[]⟩, txN L i, [], (tkN L i).line, (tkN L i).col⟩ (dp + 1)) (i + 1) else .error (i, 1))
    else if propT (tkN L i).text = true then (match partsR L (fuelP L) [61] (i + 1) [] with
      | .error e => .error e
      | .ok (j, ps) => .ok (j, [⟨3, ⟨#[]⟩, txN L i, ps, (tkN L i).line, (tkN L i).col⟩]))
    else .error (i, 1)
/-- A fuel that suffices for a body. -/
def fuelS : Nat := 3 * L.length + 3
/-- A body and the sign behind it. -/
def endR (d : DefT) (i : Nat) : Rs (Nat × List DefT) :=
  match srcE L (fuelS L) (.body d 0) i with
  | .error e => .error e
  | .ok (m, ds) => match signR L [59] m with
    | .error e => .error e
    | .ok q => .ok (q, ds)
def topR (i : Nat) : Rs (Nat × List DefT) :=
  if (tkN L i).kind = 5 then (match takenR L 5 labelT i with
    | .error e => .error e
    | .ok j => match signR L [47] j with
      | .error e => .error e
      | .ok k => endR L ⟨1, txN L i, ⟨#[47]⟩, [], (tkN L i).line, (tkN L i).col⟩ k)
  else if isK L i 4 [47] = true then endR L ⟨1, ⟨#[]⟩, ⟨#[47]⟩, [], (tkN L i).line, (tkN L i).col⟩ (i + 1)
  else if (tkN L i).kind = 6 then (match takenR L 6 labelT i with
    | .error e => .error e
    | .ok j => endR L ⟨1, ⟨#[]⟩, ⟨(38 :: (tkN L i).text).toArray⟩, [], (tkN L i).line, (tkN L i).col⟩ j)
  else if isK L i 7 [105, 110, 99, 108, 117, 100, 101] = true then delR L 6 3 [] (fun _ => true) i
  else if isK L i 7 [100, 101, 108, 101, 116, 101, 45, 110, 111, 100, 101] = true then delR L 5 6 [38] labelT i
  else .error (i, 6)
def topsR : Nat → Nat → List DefT → Rs (List DefT)
  | 0, i, _ => .error (i, 6)
  | n + 1, i, acc =>
    if (tkN L i).kind = 8 then .ok acc
    else (match topR L i with
      | .error e => .error e
      | .ok (j, ds) => topsR n j (acc ++ ds))
end
/-- What Read of source answers: the definitions, the place of the error, the error. -/
def srcT (l : List UInt8) (file : Int) : List DefT × (Int × Int × Int) × Int :=
  if (readT l file).2.2 ≠ 0 then ([], (readT l file).2.1, (readT l file).2.2)
  else match topsR (readT l file).1 (fuelP (readT l file).1) 0 [] with
    | .ok D => (D, (0, 0, 0), 0)
    | .error (k, c) => ([], (file, (tkN (readT l file).1 k).line, (tkN (readT l file).1 k).col), c)
end Go.Proofs.YtofhcgbihonckaaGreat

namespace Go.Proofs.YtofhcgbihonckaaGreat
open Go.RowKit

structure FileT where
  name : ByteArray
  text : ByteArray
/-- A definition, and the number of its file. -/
abbrev FdT := Int × DefT
abbrev PosT := Int × Int × Int
def posD (x : FdT) : PosT := (x.1, x.2.line, x.2.col)
def tagT (file : Int) (D : List DefT) : List FdT := D.map fun d => (file, d)
def findF (F : List FileT) (s : ByteArray) : Option Nat := F.findIdx? fun f => decide (f.name = s)
abbrev GivT := List (Int × List FdT)
def givT (g : GivT) (k : Nat) : Option (List FdT) := (g.find? fun p => decide (p.1 = (k : Int))).map (·.2)
/-- What a loading leaves: the names in order, what has been given, the definitions; or a place and an error. -/
abbrev Lr := Except (PosT × Int) (List ByteArray × GivT × List FdT)
/-- How many definitions fit. -/
def roomT (before : Nat) (out : List FdT) : Nat := 6000 - before - out.length
def zeroD : FdT := (0, ⟨0, ⟨#[]⟩, ⟨#[]⟩, [], 0, 0⟩)
def ldLoop (go : List ByteArray → GivT → Nat → Nat → Lr) (F : List FileT) (opn : List Nat) (before : Nat) : List FdT → List ByteArray → GivT → List FdT → Lr
  | [], ord, giv, out => .ok (ord, giv, out)
  | d :: r, ord, giv, out =>
    let more : Lr := if d.2.kind ≠ 6 then .ok (ord, giv, [d]) else
      match findF F d.2.name with
      | none => .error (posD d, 4)
      | some k => if opn.contains k = true then .error (posD d, 10) else
        match givT giv k with
        | some l => .ok (ord, giv, l)
        | none => go ord giv k (before + out.length)
    match more with
    | .error e => .error e
    | .ok (ord, giv, m) => if roomT before out < m.length then .error (posD (m.getD (roomT before out) zeroD), 3) else ldLoop go F opn before r ord giv (out ++ m)
def ldT (F : List FileT) : Nat → List Nat → List ByteArray → GivT → Nat → Nat → Lr
  | 0, _, _, _, _, _ => .error ((0, 0, 0), 1)
  | f + 1, opn, ord, giv, file, before =>
    let s := srcT (F.getD file ⟨⟨#[]⟩, ⟨#[]⟩⟩).text.data.toList file
    if s.2.2 ≠ 0 then .error (s.2.1, s.2.2) else
    match ldLoop (ldT F f (opn ++ [file])) F (opn ++ [file]) before (tagT file s.1) (ord ++ [(F.getD file ⟨⟨#[]⟩, ⟨#[]⟩⟩).name]) giv [] with
    | .error e => .error e
    | .ok (o, g, out) => .ok (o, g ++ [((file : Int), out)], out)
def dupF : List FileT → List FileT → Bool
  | _, [] => false
  | seen, f :: r => seen.any (fun g => decide (g.name = f.name)) || dupF (seen ++ [f]) r
def loadT (F : List FileT) (main : ByteArray) : Lr :=
  if 8 < F.length then .error ((0, 0, 0), 3) else if dupF [] F = true then .error ((0, 0, 0), 5) else
  match findF F main with
  | none => .error ((0, 0, 0), 4)
  | some k => ldT F (F.length + 1) [] [] [] k 0
/-- What Load answers. -/
def LoadT (F : List FileT) (main : ByteArray) : List FdT × PosT × Int := match loadT F main with
  | .error (p, e) => ([], p, e)
  | .ok (_, _, out) => (out, (0, 0, 0), 0)
/-- What Files answers. -/
def FilesT (F : List FileT) (main : ByteArray) : List ByteArray × Int := match loadT F main with
  | .error (_, e) => ([], e)
  | .ok (ord, _, _) => (ord, 0)
end Go.Proofs.YtofhcgbihonckaaGreat

namespace Go.Proofs.YtofhcgbihonckaaGreat
open Go.RowKit

def opT : Nat → List UInt8
  | 0 => [47, 32, 123]
  | n + 1 => opT n ++ [97, 123]
def clT : Nat → Nat → List UInt8
  | k, 0 => opT k
  | k, n + 1 => clT k n ++ [125, 59]
def dpT (k : Nat) : List UInt8 := clT k k ++ [125, 59]
theorem dep_plain : ∀ k, k < 14 → (srcT (dpT k) 4).2.2 = (if k ≤ 8 then 0 else 3) ∧ (srcT (dpT k) 4).2.1 = (if k ≤ 8 then (0, 0, 0) else (4, 1, 21)) := by
  intro k hk
  have hc : k = 0 ∨ k = 1 ∨ k = 2 ∨ k = 3 ∨ k = 4 ∨ k = 5 ∨ k = 6 ∨ k = 7 ∨ k = 8 ∨ k = 9 ∨ k = 10 ∨ k = 11 ∨ k = 12 ∨ k = 13 := by omega
  rcases hc with rfl | rfl | rfl | rfl | rfl | rfl | rfl | rfl | rfl | rfl | rfl | rfl | rfl | rfl
  all_goals exact ⟨by kernel_rfl, by kernel_rfl⟩
theorem op_len : ∀ k, (opT k).length = 2 * k + 3 := by
  intro k
  induction k with
  | zero => rfl
  | succ k ih => simp [opT, ih]; omega
theorem cl_len (k : Nat) : ∀ n, (clT k n).length = 2 * k + 3 + 2 * n := by
  intro n
  induction n with
  | zero => simp [clT, op_len]
  | succ n ih => simp [clT, ih]; omega
/-- The chapter's example: / { a: b { x = <1 &a>, "t"; y; }; }; -/
def exT : List UInt8 := [47, 32, 123, 32, 97, 58, 32, 98, 32, 123, 32, 120, 32, 61, 32, 60, 49, 32, 38, 97, 62, 44, 32, 34, 116, 34, 59, 32, 121, 59, 32, 125, 59, 32, 125, 59]
theorem ex_plain : srcT exT 0 = ([⟨1, ⟨#[]⟩, ⟨#[47]⟩, [], 1, 1⟩, ⟨1, ⟨#[97]⟩, ⟨#[98]⟩, [], 1, 5⟩, ⟨3, ⟨#[]⟩, ⟨#[120]⟩, [⟨1, [⟨1, ⟨#[]⟩⟩, ⟨0, ⟨#[97]⟩⟩], ⟨#[]⟩⟩, ⟨2, [], ⟨#[116]⟩⟩], 1, 12⟩, ⟨3, ⟨#[]⟩, ⟨#[121]⟩, [], 1, 29⟩, ⟨2, ⟨#[]⟩, ⟨#[]⟩, [], 1, 32⟩, ⟨2, ⟨#[]⟩, ⟨#[]⟩, [], 1, 35⟩], (0, 0, 0), 0) := by kernel_rfl
end Go.Proofs.YtofhcgbihonckaaGreat

namespace Go.Proofs.YtofhcgbihonckaaGreat
open Go.RowKit

/-- Is this the name of a top? -/
def topB (s : ByteArray) : Bool := decide (s = ⟨#[47]⟩) || decide (s.data.toList.head? = some 38)
/-- The depth behind a definition; nothing where it is at a wrong place. -/
def stT (e : Nat) (d : DefT) : Option Nat :=
  if d.kind = 1 then (if d.name ≠ ⟨#[]⟩ ∧ decide (e = 0) = topB d.name then some (e + 1) else none)
  else if d.kind = 2 then (if e = 0 then none else some (e - 1))
  else if d.kind = 3 ∨ d.kind = 4 then (if e = 0 then none else some e)
  else if d.kind = 6 then (if e = 0 then some e else none)
  else some e
def dptT : Nat → List DefT → Option Nat
  | e, [] => some e
  | e, d :: ds => (stT e d).bind fun f => dptT f ds
theorem dpt_app : ∀ (a b : List DefT) (e : Nat), dptT e (a ++ b) = (dptT e a).bind fun f => dptT f b := by
  intro a
  induction a with
  | nil => intro b e; rfl
  | cons d a ih =>
    intro b e
    simp only [List.cons_append, dptT]
    cases stT e d with
    | none => rfl
    | some f => simpa using ih b f
theorem letter_ne {c : UInt8} (h : letterB c.toNat = true ∨ decide ((c.toNat : Int) = 95) = true) : c ≠ 47 ∧ c ≠ 38 := by
  constructor
  · rintro rfl; revert h; decide
  · rintro rfl; revert h; decide
theorem name_top {s : List UInt8} (h : nameT s = true) : (⟨s.toArray⟩ : ByteArray) ≠ ⟨#[]⟩ ∧ topB ⟨s.toArray⟩ = false := by
  unfold nameT at h
  simp only [Bool.and_eq_true, decide_eq_true_eq, Bool.or_eq_true] at h
  obtain ⟨⟨⟨h1, _⟩, h2⟩, _⟩ := h
  cases s with
  | nil => simp at h1
  | cons c s =>
    have hc := letter_ne (c := c) (by simpa using h2)
    refine ⟨fun e => ?_, ?_⟩
    · have := congrArg (fun b : ByteArray => b.data.toList.length) e
      simp at this
    · unfold topB
      have e1 : (⟨(c :: s).toArray⟩ : ByteArray) ≠ ⟨#[47]⟩ := by
        intro e
        have := congrArg (fun b : ByteArray => b.data.toList) e
        simp at this
        exact hc.1 this.1
      have e2 : ¬ ((⟨(c :: s).toArray⟩ : ByteArray).data.toList.head? = some 38) := by simpa using hc.2
      rw [decide_eq_false e1, decide_eq_false e2]; rfl
section
variable {L : List Tok}
/-- The places of definitions are those of tokens from lo on, below hi, each further than the one before. -/
def Asc (L : List Tok) (lo hi : Nat) (ds : List DefT) : Prop := ∃ ks : List Nat, ds.map (fun d => (d.line, d.col)) = ks.map (fun k => ((tkN L k).line, (tkN L k).col)) ∧ ks.Pairwise (· < ·) ∧ ∀ k ∈ ks, lo ≤ k ∧ k < hi ∧ (tkN L k).kind ≠ 8
theorem Asc.nil (lo hi : Nat) : Asc L lo hi [] := ⟨[], rfl, .nil, fun k h => by cases h⟩
theorem Asc.one {lo hi k : Nat} {d : DefT} (h : d.line = (tkN L k).line ∧ d.col = (tkN L k).col) (h1 : lo ≤ k) (h2 : k < hi) (h8 : (tkN L k).kind ≠ 8) : Asc L lo hi [d] := ⟨[k], by simp [h.1, h.2], by simp, fun q hq => by simp at hq; subst hq; exact ⟨h1, h2, h8⟩⟩
theorem Asc.app {lo mid mid2 hi : Nat} {a b : List DefT} (h : Asc L lo mid a) (k : Asc L mid2 hi b) (hm : mid ≤ mid2) (h1 : lo ≤ mid2) (h2 : mid ≤ hi) : Asc L lo hi (a ++ b) := by
  obtain ⟨ks, e1, p1, q1⟩ := h
  obtain ⟨js, e2, p2, q2⟩ := k
  refine ⟨ks ++ js, by simp [e1, e2], List.pairwise_append.2 ⟨p1, p2, fun x hx y hy => ?_⟩, fun x hx => ?_⟩
  · have := q1 x hx; have := q2 y hy; omega
  · rcases List.mem_append.1 hx with hx | hx
    · obtain ⟨z1, z2, z3⟩ := q1 x hx; exact ⟨by omega, by omega, z3⟩
    · obtain ⟨z1, z2, z3⟩ := q2 x hx; exact ⟨by omega, by omega, z3⟩
theorem Asc.wide {lo hi lo2 hi2 : Nat} {a : List DefT} (h : Asc L lo hi a) (h1 : lo2 ≤ lo) (h2 : hi ≤ hi2) : Asc L lo2 hi2 a := by
  obtain ⟨ks, e1, p1, q1⟩ := h
  exact ⟨ks, e1, p1, fun x hx => by obtain ⟨z1, z2, z3⟩ := q1 x hx; exact ⟨by omega, by omega, z3⟩⟩
theorem isK_ne8 {i : Nat} {kind : Int} {s : List UInt8} (h : isK L i kind s = true) (hk : kind ≠ 8) : (tkN L i).kind ≠ 8 := by
  unfold isK at h
  simp only [Bool.and_eq_true, decide_eq_true_eq] at h
  rw [h.1]; exact hk
theorem sign_ok {s : List UInt8} {i j : Nat} (h : signR L s i = .ok j) : j = i + 1 := by
  unfold signR at h; split at h
  · cases h; rfl
  · cases h
theorem taken_ok {kind : Int} {right : List UInt8 → Bool} {i j : Nat} (h : takenR L kind right i = .ok j) : j = i + 1 ∧ right (tkN L i).text = true := by
  unfold takenR at h
  split at h
  · split at h
    · rename_i hr; cases h; exact ⟨rfl, hr⟩
    · cases h
  · cases h
theorem del_ok {kind what : Int} {before : List UInt8} {right : List UInt8 → Bool} {i j : Nat} {ds : List DefT} (h : delR L kind what before right i = .ok (j, ds)) (h8 : (tkN L i).kind ≠ 8) : i < j ∧ Asc L i j ds ∧ ∃ d, ds = [d] ∧ d.kind = kind := by
  unfold delR at h
  cases h1 : takenR L what right (i + 1) with
  | error e => rw [h1] at h; cases h
  | ok m =>
    rw [h1] at h
    simp only at h
    cases h2 : signR L [59] m with
    | error e => rw [h2] at h; cases h
    | ok q =>
      rw [h2] at h
      have e1 := (taken_ok h1).1
      have e2 := sign_ok h2
      cases h
      exact ⟨by omega, Asc.one (k := i) ⟨rfl, rfl⟩ (Nat.le_refl _) (by omega) h8, _, rfl, rfl⟩
end
end Go.Proofs.YtofhcgbihonckaaGreat

namespace Go.Proofs.YtofhcgbihonckaaGreat
open Go.RowKit

section
variable {L : List Tok}
theorem prim_lt {i : Nat} (h : (primX L i).2.2 = 0) : i < (primX L i).2.1.toNat := by
  unfold primX at h ⊢
  obtain ⟨r, e1, e2⟩ := ev_total (L.map tkX) (40 * (L.map tkX).length + 40) .prim 0 i trivial (by simp only [fuelW]; omega)
  have hE : evF (L.map tkX) .prim 0 i = r := by unfold evF; rw [e1]; rfl
  rw [hE] at h ⊢
  cases r with
  | none => simp [outT] at h
  | some q =>
    have hlt := (e2 q rfl).2 rfl
    obtain ⟨v, j, p, g, d⟩ := q
    simp only [outT] at h hlt ⊢
    cases p <;> cases g <;> cases d <;> simp at h ⊢
    exact hlt
theorem cells_lt : ∀ (n i : Nat) (acc cs : List CellT) (j : Nat), cellsR L n i acc = .ok (j, cs) → i < j := by
  intro n
  induction n with
  | zero => intro i acc cs j h; cases h
  | succ n ih =>
    intro i acc cs j h
    rw [cellsR] at h
    split at h
    · cases h; omega
    · split at h
      · split at h
        · have := ih _ _ _ _ h; omega
        · cases h
      · split at h
        · cases h
        · rename_i hz
          have h0 := prim_lt (L := L) (i := i) (by simpa using hz)
          have := ih _ _ _ _ h; omega
theorem bytes_lt : ∀ (n i : Nat) (acc b : List UInt8) (j : Nat), bytesR L n i acc = .ok (j, b) → i < j := by
  intro n
  induction n with
  | zero => intro i acc b j h; cases h
  | succ n ih =>
    intro i acc b j h
    rw [bytesR] at h
    split at h
    · cases h; omega
    · split at h
      · cases h
      · split at h
        · cases h
        · have := ih _ _ _ _ h; omega
theorem part_lt {i j : Nat} {p : PartT} (h : partR L i = .ok (j, p)) : i < j := by
  unfold partR at h
  split at h
  · cases h; omega
  · split at h
    · split at h
      · cases h; omega
      · cases h
    · split at h
      · cases hc : cellsR L (fuelP L) (i + 1) [] with
        | error e => rw [hc] at h; cases h
        | ok q => rw [hc] at h; obtain ⟨m, cs⟩ := q; have := cells_lt _ _ _ _ _ hc; cases h; omega
      · split at h
        · cases hc : bytesR L (fuelP L) (i + 1) [] with
          | error e => rw [hc] at h; cases h
          | ok q => rw [hc] at h; obtain ⟨m, cs⟩ := q; have := bytes_lt _ _ _ _ _ hc; cases h; omega
        · cases h
theorem parts_le : ∀ (n : Nat) (sep : List UInt8) (i : Nat) (acc ps : List PartT) (j : Nat), partsR L n sep i acc = .ok (j, ps) → i ≤ j := by
  intro n
  induction n with
  | zero => intro sep i acc ps j h; cases h
  | succ n ih =>
    intro sep i acc ps j h
    rw [partsR] at h
    split at h
    · cases hp : partR L (i + 1) with
      | error e => rw [hp] at h; cases h
      | ok q =>
        rw [hp] at h
        obtain ⟨m, p⟩ := q
        have h1 := part_lt hp
        have := ih _ _ _ _ _ h
        omega
    · cases h; omega
def BodyP (L : List Tok) (n : Nat) : Prop := ∀ d dp i j ds, srcE L n (.body d dp) i = .ok (j, ds) → ∃ rest, ds = d :: rest ∧ i < j ∧ Asc L i j rest ∧ ∀ e, dptT (e + 1) rest = some e
def MemsP (L : List Tok) (n : Nat) : Prop := ∀ dp acc i j ds, srcE L n (.mems dp acc) i = .ok (j, ds) → ∃ rest, ds = acc ++ rest ∧ i < j ∧ Asc L i j rest ∧ ∀ e, dptT (e + 1) rest = some e
def MembP (L : List Tok) (n : Nat) : Prop := ∀ dp i j ds, srcE L n (.member dp) i = .ok (j, ds) → i < j ∧ Asc L i j ds ∧ ∀ e, dptT (e + 1) ds = some (e + 1)
def NamdP (L : List Tok) (n : Nat) : Prop := ∀ dp i j ds, srcE L n (.named dp) i = .ok (j, ds) → (tkN L i).kind = 1 → i < j ∧ Asc L i j ds ∧ ∀ e, dptT (e + 1) ds = some (e + 1)
theorem node_in {d : DefT} {s : List UInt8} {rest : List DefT} {e : Nat} (hk : d.kind = 1) (hn : d.name = ⟨s.toArray⟩) (hs : nameT s = true) (hr : dptT (e + 1 + 1) rest = some (e + 1)) : dptT (e + 1) (d :: rest) = some (e + 1) := by
  obtain ⟨h1, h2⟩ := name_top hs
  have : stT (e + 1) d = some (e + 1 + 1) := by
    unfold stT
    rw [if_pos hk, hn, if_pos ⟨h1, by rw [h2]; simp⟩]
  simp only [dptT, this, Option.bind_some]
  exact hr
theorem src_pairs (L : List Tok) : ∀ n, BodyP L n ∧ MemsP L n ∧ MembP L n ∧ NamdP L n := by
  intro n
  induction n with
  | zero => exact ⟨fun d dp i j ds h => (by cases h), fun dp acc i j ds h => (by cases h), fun dp i j ds h => (by cases h), fun dp i j ds h _ => (by cases h)⟩
  | succ n ih =>
    obtain ⟨hB, hM, hm, hN⟩ := ih
    refine ⟨fun d dp i j ds h => ?_, fun dp acc i j ds h => ?_, fun dp i j ds h => ?_, fun dp i j ds h h1k => ?_⟩
    · rw [srcE] at h
      split at h
      · split at h
        · cases h
        · obtain ⟨rest, e1, h1, h2, h3⟩ := hM _ _ _ _ _ h
          exact ⟨rest, e1, by omega, h2.wide (by omega) (Nat.le_refl _), h3⟩
      · cases h
    · rw [srcE] at h
      split at h
      · rename_i hk
        cases h
        exact ⟨_, rfl, by omega, Asc.one (k := i) ⟨rfl, rfl⟩ (Nat.le_refl _) (by omega) (isK_ne8 hk (by decide)), fun e => rfl⟩
      · cases h1 : srcE L n (.member dp) i with
        | error e => rw [h1] at h; cases h
        | ok q =>
          rw [h1] at h
          obtain ⟨m, xs⟩ := q
          obtain ⟨a1, a2, a3⟩ := hm _ _ _ _ h1
          obtain ⟨rest, e1, b1, b2, b3⟩ := hM _ _ _ _ _ h
          refine ⟨xs ++ rest, by rw [e1, List.append_assoc], by omega, a2.app b2 (Nat.le_refl _) (by omega) (by omega), fun e => ?_⟩
          rw [dpt_app, a3 e]
          exact b3 e
    · rw [srcE] at h
      split at h
      · rename_i h5k
        cases h1 : takenR L 5 labelT i with
        | error e => rw [h1] at h; cases h
        | ok a =>
          rw [h1] at h
          simp only at h
          cases h2 : takenR L 1 nameT a with
          | error e => rw [h2] at h; cases h
          | ok b =>
            rw [h2] at h
            simp only at h
            obtain ⟨r1, _⟩ := taken_ok h1
            obtain ⟨r2, r3⟩ := taken_ok h2
            cases h3 : srcE L n (.body ⟨1, txN L i, txN L a, [], (tkN L i).line, (tkN L i).col⟩ (dp + 1)) b with
            | error e => rw [h3] at h; cases h
            | ok q =>
              rw [h3] at h
              obtain ⟨m, xs⟩ := q
              simp only at h
              obtain ⟨rest, e1, b1, b2, b3⟩ := hB _ _ _ _ _ h3
              cases h4 : signR L [59] m with
              | error e => rw [h4] at h; cases h
              | ok q =>
                rw [h4] at h
                have e2 := sign_ok h4
                cases h
                subst e1
                refine ⟨by omega, ?_, fun e => node_in rfl rfl r3 (b3 (e + 1))⟩
                exact (Asc.one (k := i) (hi := i + 1) ⟨rfl, rfl⟩ (Nat.le_refl _) (by omega) (by rw [h5k]; decide)).app (b2.wide (Nat.le_refl _) (by omega)) (by omega) (by omega) (by omega)
      · split at h
        · rename_i h1k
          cases h1 : srcE L n (.named dp) i with
          | error e => rw [h1] at h; cases h
          | ok q =>
            rw [h1] at h
            obtain ⟨m, xs⟩ := q
            simp only at h
            obtain ⟨a1, a2, a3⟩ := hN _ _ _ _ h1 h1k
            cases h4 : signR L [59] m with
            | error e => rw [h4] at h; cases h
            | ok q =>
              rw [h4] at h
              have e2 := sign_ok h4
              cases h
              exact ⟨by omega, a2.wide (Nat.le_refl _) (by omega), a3⟩
        · split at h
          · rename_i hkk
            obtain ⟨a1, a2, d, rfl, a3⟩ := del_ok h (isK_ne8 hkk (by decide))
            exact ⟨a1, a2, fun e => by simp [dptT, stT, a3]⟩
          · split at h
            · rename_i hkk
              obtain ⟨a1, a2, d, rfl, a3⟩ := del_ok h (isK_ne8 hkk (by decide))
              exact ⟨a1, a2, fun e => by simp [dptT, stT, a3]⟩
            · cases h
    · rw [srcE] at h
      split at h
      · split at h
        · rename_i hs
          obtain ⟨rest, e1, b1, b2, b3⟩ := hB _ _ _ _ _ h
          subst e1
          refine ⟨by omega, ?_, fun e => node_in rfl rfl hs (b3 (e + 1))⟩
          exact (Asc.one (k := i) (hi := i + 1) ⟨rfl, rfl⟩ (Nat.le_refl _) (by omega) (by rw [h1k]; decide)).app b2 (by omega) (by omega) (by omega)
        · cases h
      · split at h
        · cases h1 : partsR L (fuelP L) [61] (i + 1) [] with
          | error e => rw [h1] at h; cases h
          | ok q =>
            rw [h1] at h
            obtain ⟨m, ps⟩ := q
            have := parts_le _ _ _ _ _ _ h1
            cases h
            exact ⟨by omega, Asc.one (k := i) ⟨rfl, rfl⟩ (Nat.le_refl _) (by omega) (by rw [h1k]; decide), fun e => by simp [dptT, stT]⟩
        · cases h
end
end Go.Proofs.YtofhcgbihonckaaGreat

namespace Go.Proofs.YtofhcgbihonckaaGreat
open Go.RowKit

section
variable {L : List Tok}
theorem node_top {d : DefT} {rest : List DefT} (hk : d.kind = 1) (hn : d.name ≠ ⟨#[]⟩) (ht : topB d.name = true) (hr : dptT (0 + 1) rest = some 0) : dptT 0 (d :: rest) = some 0 := by
  have : stT 0 d = some (0 + 1) := by
    unfold stT
    rw [if_pos hk, if_pos ⟨hn, by rw [ht]; rfl⟩]
  simp only [dptT, this, Option.bind_some]
  exact hr
theorem end_pairs {d : DefT} {i j k lo : Nat} {ds : List DefT} (h : endR L d i = .ok (j, ds)) (hk : d.kind = 1) (hn : d.name ≠ ⟨#[]⟩) (ht : topB d.name = true) (hp : d.line = (tkN L k).line ∧ d.col = (tkN L k).col) (h1 : lo ≤ k) (h2 : k < i) (h8 : (tkN L k).kind ≠ 8) : i < j ∧ Asc L lo j ds ∧ dptT 0 ds = some 0 := by
  unfold endR at h
  cases h3 : srcE L (fuelS L) (.body d 0) i with
  | error e => rw [h3] at h; cases h
  | ok q =>
    rw [h3] at h
    obtain ⟨m, xs⟩ := q
    simp only at h
    obtain ⟨rest, e1, b1, b2, b3⟩ := (src_pairs L (fuelS L)).1 _ _ _ _ _ h3
    cases h4 : signR L [59] m with
    | error e => rw [h4] at h; cases h
    | ok q =>
      rw [h4] at h
      have e2 := sign_ok h4
      cases h
      subst e1
      exact ⟨by omega, (Asc.one (k := k) (hi := k + 1) hp h1 (by omega) h8).app (b2.wide (Nat.le_refl _) (by omega)) (by omega) (by omega) (by omega), node_top hk hn ht (b3 0)⟩
theorem amp_top (s : List UInt8) : (⟨(38 :: s).toArray⟩ : ByteArray) ≠ ⟨#[]⟩ ∧ topB ⟨(38 :: s).toArray⟩ = true := by
  refine ⟨fun e => ?_, ?_⟩
  · have := congrArg (fun b : ByteArray => b.data.toList.length) e
    simp at this
  · unfold topB
    have : (⟨(38 :: s).toArray⟩ : ByteArray).data.toList.head? = some 38 := by simp
    rw [decide_eq_true this, Bool.or_true]
theorem top_pairs {i j : Nat} {ds : List DefT} (h : topR L i = .ok (j, ds)) : i < j ∧ Asc L i j ds ∧ dptT 0 ds = some 0 := by
  have hroot : (⟨#[47]⟩ : ByteArray) ≠ ⟨#[]⟩ ∧ topB ⟨#[47]⟩ = true := by decide
  unfold topR at h
  split at h
  · rename_i h5k
    cases h1 : takenR L 5 labelT i with
    | error e => rw [h1] at h; cases h
    | ok a =>
      rw [h1] at h
      simp only at h
      have r1 := (taken_ok h1).1
      cases h2 : signR L [47] a with
      | error e => rw [h2] at h; cases h
      | ok b =>
        rw [h2] at h
        have r2 := sign_ok h2
        obtain ⟨a1, a2, a3⟩ := end_pairs (k := i) (lo := i) h rfl hroot.1 hroot.2 ⟨rfl, rfl⟩ (Nat.le_refl _) (by omega) (by rw [h5k]; decide)
        exact ⟨by omega, a2, a3⟩
  · split at h
    · rename_i hkk
      obtain ⟨a1, a2, a3⟩ := end_pairs (k := i) (lo := i) h rfl hroot.1 hroot.2 ⟨rfl, rfl⟩ (Nat.le_refl _) (by omega) (isK_ne8 hkk (by decide))
      exact ⟨by omega, a2, a3⟩
    · split at h
      · rename_i h6k
        cases h1 : takenR L 6 labelT i with
        | error e => rw [h1] at h; cases h
        | ok a =>
          rw [h1] at h
          have r1 := (taken_ok h1).1
          have hamp := amp_top (tkN L i).text
          obtain ⟨a1, a2, a3⟩ := end_pairs (k := i) (lo := i) h rfl hamp.1 hamp.2 ⟨rfl, rfl⟩ (Nat.le_refl _) (by omega) (by rw [h6k]; decide)
          exact ⟨by omega, a2, a3⟩
      · split at h
        · rename_i hkk
          obtain ⟨a1, a2, d, rfl, a3⟩ := del_ok h (isK_ne8 hkk (by decide))
          exact ⟨a1, a2, by simp [dptT, stT, a3]⟩
        · split at h
          · rename_i hkk
            obtain ⟨a1, a2, d, rfl, a3⟩ := del_ok h (isK_ne8 hkk (by decide))
            exact ⟨a1, a2, by simp [dptT, stT, a3]⟩
          · cases h
theorem tops_pairs : ∀ (n i : Nat) (acc D : List DefT), topsR L n i acc = .ok D → Asc L 0 i acc → dptT 0 acc = some 0 → ∃ hi, Asc L 0 hi D ∧ dptT 0 D = some 0 := by
  intro n
  induction n with
  | zero => intro i acc D h; cases h
  | succ n ih =>
    intro i acc D h ha hd
    rw [topsR] at h
    split at h
    · cases h; exact ⟨i, ha, hd⟩
    · cases h1 : topR L i with
      | error e => rw [h1] at h; cases h
      | ok q =>
        rw [h1] at h
        obtain ⟨j, ds⟩ := q
        obtain ⟨a1, a2, a3⟩ := top_pairs h1
        exact ih _ _ _ h (ha.app a2 (Nat.le_refl _) (by omega) (by omega)) (by rw [dpt_app, hd]; exact a3)
end
theorem src_law (l : List UInt8) (file : Int) : ((srcT l file).2.2 = 0 ∧ dptT 0 (srcT l file).1 = some 0 ∧ ∃ hi, Asc (readT l file).1 0 hi (srcT l file).1 ∧ (readT l file).2.2 = 0) ∨ ((srcT l file).2.2 ≠ 0 ∨ (srcT l file).1 = []) := by
  unfold srcT
  split
  · exact .inr (.inr rfl)
  · rename_i h0
    cases h : topsR (readT l file).1 (fuelP (readT l file).1) 0 [] with
    | error e => exact .inr (.inr rfl)
    | ok D =>
      obtain ⟨hi, a1, a2⟩ := tops_pairs _ _ _ _ h (Asc.nil _ _) rfl
      exact .inl ⟨rfl, a2, hi, a1, by simpa using h0⟩
/-- Places ascend. -/
theorem asc_pairs {l : List UInt8} {file : Int} (h : (readT l file).2.2 = 0) {hi : Nat} {D : List DefT} (ha : Asc (readT l file).1 0 hi D) : D.Pairwise (fun a b => Ahead (a.line, a.col) (b.line, b.col)) := by
  obtain ⟨ks, e, p, q⟩ := ha
  have hp := readT_asc l file h
  generalize (readT l file).1 = L at *
  have hlt : ∀ k ∈ ks, k < L.length := by
    intro k hk
    rcases Nat.lt_or_ge k L.length with c | c
    · exact c
    · exfalso
      apply (q k hk).2.2
      unfold tkN
      rw [List.getD_eq_getElem?_getD, List.getElem?_eq_none c]
      rfl
  have h1 : (ks.map (fun k => ((tkN L k).line, (tkN L k).col))).Pairwise Ahead := by
    rw [List.pairwise_map]
    refine p.imp_of_mem (fun {a b} ha hb hab => ?_)
    have h2 := List.pairwise_iff_getElem.1 hp a b (hlt a ha) (hlt b hb) hab
    have e1 : tkN L a = L[a]'(hlt a ha) := by unfold tkN; rw [List.getD_eq_getElem?_getD, List.getElem?_eq_getElem (hlt a ha)]; rfl
    have e2 : tkN L b = L[b]'(hlt b hb) := by unfold tkN; rw [List.getD_eq_getElem?_getD, List.getElem?_eq_getElem (hlt b hb)]; rfl
    rw [e1, e2]
    exact h2
  rw [← e, List.pairwise_map] at h1
  exact h1
end Go.Proofs.YtofhcgbihonckaaGreat
