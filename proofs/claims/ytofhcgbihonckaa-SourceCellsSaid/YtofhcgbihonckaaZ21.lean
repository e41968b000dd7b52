/- Plain laws: the definitions of a document with an expression in it. | Plain laws: the definitions of a document with an expression in it: evaluated (printed). | Plain laws: the definitions of a document with an expression in it: the whole text. -/
import Derived.Test.YtofhcgbihonckaaZ9
import Derived.Test.YtofhcgbihonckaaZ20

set_option linter.unusedVariables false
set_option linter.unusedSimpArgs false
set_option linter.unusedSectionVars false

namespace Go.Proofs.Ytofhcgbihonckaa
open Go.RowKit

theorem Lx.begin {c : UInt8} {x r : List UInt8} {t : Tok} (h : sepB c.toNat = false ∧ c.toNat ≠ 47) (hn : nextT ((c :: x) ++ r) = (t, (c :: x).length, 0)) : Lx (c :: x) [bare t] r :=
  Lx.tok (by simp) (by have := blk_begin (f := ((c :: x) ++ r).length) (r := x ++ r) h.1 h.2; exact this) hn
def sclU : List UInt8 := [47, 32, 123, 32, 112, 32, 61, 32, 60]
def sclV : List UInt8 := [32, 53, 62, 44, 32, 34, 115, 34, 44, 32, 91, 32, 49, 32, 50, 32, 93, 44, 32, 38, 120, 49, 59, 32, 125, 59]
def sclP : List (Int × List UInt8 × Int) := [(4, [47], 0), (4, [123], 0), (1, [112], 0), (4, [61], 0), (4, [60], 0)]
def sclQ : List (Int × List UInt8 × Int) := [(2, [], 5), (4, [62], 0), (4, [44], 0), (3, [115], 0), (4, [44], 0), (4, [91], 0), (2, [], 1), (2, [], 2), (4, [93], 0), (4, [44], 0), (6, [120, 49], 0), (4, [59], 0), (4, [125], 0), (4, [59], 0)]
theorem scl_pre (r : List UInt8) : Lx sclU sclP (40 :: r) := by
  have a1 := Lx.sign (123 :: 32 :: 112 :: 32 :: 61 :: 32 :: 60 :: 40 :: r) [47] (by decide)
  have a2 : Lx [123] [(4, [123], 0)] (32 :: 112 :: 32 :: 61 :: 32 :: 60 :: 40 :: r) := Lx.begin (t := ⟨4, [123], 0, 0, 0⟩) (by decide) (by kernel_rfl)
  have a3 : Lx [112] [(1, [112], 0)] (32 :: 61 :: 32 :: 60 :: 40 :: r) := Lx.begin (t := ⟨1, [112], 0, 0, 0⟩) (by decide) (by kernel_rfl)
  have a4 : Lx [61] [(4, [61], 0)] (32 :: 60 :: 40 :: r) := Lx.begin (t := ⟨4, [61], 0, 0, 0⟩) (by decide) (by kernel_rfl)
  have a5 : Lx [60] [(4, [60], 0)] (40 :: r) := Lx.begin (t := ⟨4, [60], 0, 0, 0⟩) (by decide) (by kernel_rfl)
  exact Lx.append a1 (Lx.append (x := [32]) (T := []) (Lx.sp _) (Lx.append a2 (Lx.append (x := [32]) (T := []) (Lx.sp _) (Lx.append a3 (Lx.append (x := [32]) (T := []) (Lx.sp _) (Lx.append a4 (Lx.append (x := [32]) (T := []) (Lx.sp _) a5)))))))
theorem scl_post : Lx sclV sclQ [] := by
  have b1 : Lx [53] [(2, [], 5)] [62, 44, 32, 34, 115, 34, 44, 32, 91, 32, 49, 32, 50, 32, 93, 44, 32, 38, 120, 49, 59, 32, 125, 59] := Lx.begin (t := ⟨2, [], 5, 0, 0⟩) (by decide) (by kernel_rfl)
  have b2 : Lx [62] [(4, [62], 0)] [44, 32, 34, 115, 34, 44, 32, 91, 32, 49, 32, 50, 32, 93, 44, 32, 38, 120, 49, 59, 32, 125, 59] := Lx.begin (t := ⟨4, [62], 0, 0, 0⟩) (by decide) (by kernel_rfl)
  have b3 : Lx [44] [(4, [44], 0)] [32, 34, 115, 34, 44, 32, 91, 32, 49, 32, 50, 32, 93, 44, 32, 38, 120, 49, 59, 32, 125, 59] := Lx.begin (t := ⟨4, [44], 0, 0, 0⟩) (by decide) (by kernel_rfl)
  have b4 : Lx [34, 115, 34] [(3, [115], 0)] [44, 32, 91, 32, 49, 32, 50, 32, 93, 44, 32, 38, 120, 49, 59, 32, 125, 59] := Lx.begin (t := ⟨3, [115], 0, 0, 0⟩) (by decide) (by kernel_rfl)
  have b5 : Lx [44] [(4, [44], 0)] [32, 91, 32, 49, 32, 50, 32, 93, 44, 32, 38, 120, 49, 59, 32, 125, 59] := Lx.begin (t := ⟨4, [44], 0, 0, 0⟩) (by decide) (by kernel_rfl)
  have b6 : Lx [91] [(4, [91], 0)] [32, 49, 32, 50, 32, 93, 44, 32, 38, 120, 49, 59, 32, 125, 59] := Lx.begin (t := ⟨4, [91], 0, 0, 0⟩) (by decide) (by kernel_rfl)
  have b7 : Lx [49] [(2, [], 1)] [32, 50, 32, 93, 44, 32, 38, 120, 49, 59, 32, 125, 59] := Lx.begin (t := ⟨2, [], 1, 0, 0⟩) (by decide) (by kernel_rfl)
  have b8 : Lx [50] [(2, [], 2)] [32, 93, 44, 32, 38, 120, 49, 59, 32, 125, 59] := Lx.begin (t := ⟨2, [], 2, 0, 0⟩) (by decide) (by kernel_rfl)
  have b9 : Lx [93] [(4, [93], 0)] [44, 32, 38, 120, 49, 59, 32, 125, 59] := Lx.begin (t := ⟨4, [93], 0, 0, 0⟩) (by decide) (by kernel_rfl)
  have c1 : Lx [44] [(4, [44], 0)] [32, 38, 120, 49, 59, 32, 125, 59] := Lx.begin (t := ⟨4, [44], 0, 0, 0⟩) (by decide) (by kernel_rfl)
  have c2 : Lx [38, 120, 49] [(6, [120, 49], 0)] [59, 32, 125, 59] := Lx.begin (t := ⟨6, [120, 49], 0, 0, 0⟩) (by decide) (by kernel_rfl)
  have c3 : Lx [59] [(4, [59], 0)] [32, 125, 59] := Lx.begin (t := ⟨4, [59], 0, 0, 0⟩) (by decide) (by kernel_rfl)
  have c4 : Lx [125] [(4, [125], 0)] [59] := Lx.begin (t := ⟨4, [125], 0, 0, 0⟩) (by decide) (by kernel_rfl)
  have c5 : Lx [59] [(4, [59], 0)] [] := Lx.begin (t := ⟨4, [59], 0, 0, 0⟩) (by decide) (by kernel_rfl)
  have s := fun r => Lx.sp r
  exact Lx.append (x := [32]) (T := []) (s _) (Lx.append b1 (Lx.append b2 (Lx.append b3 (Lx.append (x := [32]) (T := []) (s _) (Lx.append b4 (Lx.append b5 (Lx.append (x := [32]) (T := []) (s _) (Lx.append b6 (Lx.append (x := [32]) (T := []) (s _) (Lx.append b7 (Lx.append (x := [32]) (T := []) (s _) (Lx.append b8 (Lx.append (x := [32]) (T := []) (s _) (Lx.append b9 (Lx.append c1 (Lx.append (x := [32]) (T := []) (s _) (Lx.append c2 (Lx.append c3 (Lx.append (x := [32]) (T := []) (s _) (Lx.append c4 c5))))))))))))))))))))
/-- A token by its kind, text and value. -/
def TkIs (L : List Tok) (i : Nat) (k : Int) (s : List UInt8) (v : Int) : Prop := (tkN L i).kind = k ∧ (tkN L i).text = s ∧ (tkN L i).value = v
theorem tk_is {L : List Tok} {i : Nat} {k : Int} {s : List UInt8} {v : Int} (h : (L.map bare)[i]? = some (k, s, v)) : TkIs L i k s v := by
  rw [List.getElem?_map] at h
  obtain ⟨t, ht, e⟩ := Option.map_eq_some_iff.1 h
  unfold TkIs tkN
  rw [List.getD_eq_getElem?_getD, ht]
  cases e
  exact ⟨rfl, rfl, rfl⟩
theorem isK_of {L : List Tok} {i : Nat} {k kind : Int} {s text : List UInt8} {v : Int} (h : TkIs L i k s v) : isK L i kind text = (decide (k = kind) && (text.isEmpty || decide (s = text))) := by
  unfold isK; rw [h.1, h.2.1]
end Go.Proofs.Ytofhcgbihonckaa

namespace Go.Proofs.Ytofhcgbihonckaa
open Go.RowKit

section
variable {L : List Tok} {i B n : Nat} {x : Int}
theorem prim_num {v : Int} (h : TkIs L B 2 [] v) (hl : B < L.length) (h0 : 0 ≤ v) (h1 : v ≤ 4294967295) : primX L B = (v, ((B + 1 : Nat) : Int), 0) := by
  have hg : (L.map tkX)[B]? = some (2, ⟨#[]⟩, v) := by
    rw [List.getElem?_map, List.getElem?_eq_getElem hl]
    obtain ⟨k1, k2, k3⟩ := h
    unfold tkN at k1 k2 k3
    rw [List.getD_eq_getElem?_getD, List.getElem?_eq_getElem hl] at k1 k2 k3
    simp only [Option.getD_some] at k1 k2 k3
    simp [tkX, k1, k2, k3]
  have hs : sgnT (L.map tkX) B ≠ ⟨#[40]⟩ := by unfold sgnT; rw [hg]; show (if (2 : Int) = 4 then _ else _) ≠ _; rw [if_neg (by decide)]; decide
  have := rd_num (d := 0) hs hg rfl
  unfold primX
  rw [this.evF trivial]
  have e1 : v % 4294967296 = v := by omega
  have e2 : decide (v < 0) = false := by simp; omega
  have e3 : decide (4294967295 < v) = false := by simp; omega
  simp only [outT, e1, e2, e3]
  rfl
theorem scl_cells (b0 : TkIs L (B) 2 [] 5) (b1 : TkIs L (B + 1) 4 [62] 0) (e0 : TkIs L i 4 [40] 0) (ep : primX L i = (x, (B : Int), 0)) (hl : B < L.length) : cellsR L (n + 1 + 1 + 1) i [] = .ok (B + 1 + 1, [⟨x, ⟨#[]⟩⟩, ⟨5, ⟨#[]⟩⟩]) := by
  rw [cellsR, if_neg (by rw [isK_of e0]; decide), if_neg (by rw [e0.1]; decide), ep, if_neg (by simp)]
  simp only [Int.toNat_natCast]
  rw [cellsR, if_neg (by rw [isK_of b0]; decide), if_neg (by rw [b0.1]; decide), prim_num b0 hl (by omega) (by omega), if_neg (by simp)]
  simp only [Int.toNat_natCast]
  rw [cellsR, if_pos (by rw [isK_of b1]; decide)]
  rfl
theorem scl_bytes (b6 : TkIs L (B + 1 + 1 + 1 + 1 + 1 + 1) 2 [] 1) (b7 : TkIs L (B + 1 + 1 + 1 + 1 + 1 + 1 + 1) 2 [] 2) (b8 : TkIs L (B + 1 + 1 + 1 + 1 + 1 + 1 + 1 + 1) 4 [93] 0) : bytesR L (n + 1 + 1 + 1) (B + 1 + 1 + 1 + 1 + 1 + 1) [] = .ok (B + 1 + 1 + 1 + 1 + 1 + 1 + 1 + 1 + 1, [1, 2]) := by
  rw [bytesR, if_neg (by rw [isK_of b6]; decide), if_neg (by rw [b6.1]; decide), if_neg (by rw [b6.2.2]; decide), b6.2.2]
  rw [bytesR, if_neg (by rw [isK_of b7]; decide), if_neg (by rw [b7.1]; decide), if_neg (by rw [b7.2.2]; decide), b7.2.2]
  rw [bytesR, if_pos (by rw [isK_of b8]; decide)]
  rfl
theorem scl_p1 (hq : fuelP L = n + 1 + 1 + 1) (a4 : TkIs L i 4 [60] 0) (b0 : TkIs L (B) 2 [] 5) (b1 : TkIs L (B + 1) 4 [62] 0) (e0 : TkIs L (i + 1) 4 [40] 0) (ep : primX L (i + 1) = (x, (B : Int), 0)) (hl : B < L.length) : partR L i = .ok (B + 1 + 1, ⟨1, [⟨x, ⟨#[]⟩⟩, ⟨5, ⟨#[]⟩⟩], ⟨#[]⟩⟩) := by
  unfold partR
  rw [if_neg (by rw [a4.1]; decide), if_neg (by rw [a4.1]; decide), if_pos (by rw [isK_of a4]; decide), hq, scl_cells b0 b1 e0 ep hl]
theorem scl_p2 (b3 : TkIs L (B + 1 + 1 + 1) 3 [115] 0) : partR L (B + 1 + 1 + 1) = .ok (B + 1 + 1 + 1 + 1, ⟨2, [], ⟨#[115]⟩⟩) := by
  unfold partR txN
  rw [if_pos (by rw [b3.1]), b3.2.1]
theorem scl_p3 (hq : fuelP L = n + 1 + 1 + 1) (b5 : TkIs L (B + 1 + 1 + 1 + 1 + 1) 4 [91] 0) (b6 : TkIs L (B + 1 + 1 + 1 + 1 + 1 + 1) 2 [] 1) (b7 : TkIs L (B + 1 + 1 + 1 + 1 + 1 + 1 + 1) 2 [] 2) (b8 : TkIs L (B + 1 + 1 + 1 + 1 + 1 + 1 + 1 + 1) 4 [93] 0) : partR L (B + 1 + 1 + 1 + 1 + 1) = .ok (B + 1 + 1 + 1 + 1 + 1 + 1 + 1 + 1 + 1, ⟨3, [], ⟨#[1, 2]⟩⟩) := by
  unfold partR
  rw [if_neg (by rw [b5.1]; decide), if_neg (by rw [b5.1]; decide), if_neg (by rw [isK_of b5]; decide), if_pos (by rw [isK_of b5]; decide), hq, scl_bytes b6 b7 b8]
theorem scl_p4 (b10 : TkIs L (B + 1 + 1 + 1 + 1 + 1 + 1 + 1 + 1 + 1 + 1) 6 [120, 49] 0) : partR L (B + 1 + 1 + 1 + 1 + 1 + 1 + 1 + 1 + 1 + 1) = .ok (B + 1 + 1 + 1 + 1 + 1 + 1 + 1 + 1 + 1 + 1 + 1, ⟨4, [], ⟨#[120, 49]⟩⟩) := by
  unfold partR txN
  rw [if_neg (by rw [b10.1]; decide), if_pos (by rw [b10.1]), b10.2.1, if_pos (by decide)]
theorem scl_parts (hq : fuelP L = n + 1 + 1 + 1 + 1 + 1) (a3 : TkIs L i 4 [61] 0) (a4 : TkIs L (i + 1) 4 [60] 0) (b0 : TkIs L (B) 2 [] 5) (b1 : TkIs L (B + 1) 4 [62] 0) (b2 : TkIs L (B + 1 + 1) 4 [44] 0) (b3 : TkIs L (B + 1 + 1 + 1) 3 [115] 0) (b4 : TkIs L (B + 1 + 1 + 1 + 1) 4 [44] 0) (b5 : TkIs L (B + 1 + 1 + 1 + 1 + 1) 4 [91] 0) (b6 : TkIs L (B + 1 + 1 + 1 + 1 + 1 + 1) 2 [] 1) (b7 : TkIs L (B + 1 + 1 + 1 + 1 + 1 + 1 + 1) 2 [] 2) (b8 : TkIs L (B + 1 + 1 + 1 + 1 + 1 + 1 + 1 + 1) 4 [93] 0) (b9 : TkIs L (B + 1 + 1 + 1 + 1 + 1 + 1 + 1 + 1 + 1) 4 [44] 0) (b10 : TkIs L (B + 1 + 1 + 1 + 1 + 1 + 1 + 1 + 1 + 1 + 1) 6 [120, 49] 0) (b11 : TkIs L (B + 1 + 1 + 1 + 1 + 1 + 1 + 1 + 1 + 1 + 1 + 1) 4 [59] 0) (e0 : TkIs L (i + 1 + 1) 4 [40] 0) (ep : primX L (i + 1 + 1) = (x, (B : Int), 0)) (hl : B < L.length) :
    partsR L (fuelP L) [61] i [] = .ok (B + 1 + 1 + 1 + 1 + 1 + 1 + 1 + 1 + 1 + 1 + 1, [⟨1, [⟨x, ⟨#[]⟩⟩, ⟨5, ⟨#[]⟩⟩], ⟨#[]⟩⟩, ⟨2, [], ⟨#[115]⟩⟩, ⟨3, [], ⟨#[1, 2]⟩⟩, ⟨4, [], ⟨#[120, 49]⟩⟩]) := by
  have h1 := scl_p1 (n := n + 1 + 1) hq a4 b0 b1 e0 ep hl
  have h2 := scl_p2 b3
  have h3 := scl_p3 (n := n + 1 + 1) hq b5 b6 b7 b8
  have h4 := scl_p4 b10
  rw [hq, partsR, if_pos (by rw [isK_of a3]; decide), h1]
  simp only
  rw [partsR, if_pos (by rw [isK_of b2]; decide), h2]
  simp only
  rw [partsR, if_pos (by rw [isK_of b4]; decide), h3]
  simp only
  rw [partsR, if_pos (by rw [isK_of b9]; decide), h4]
  simp only
  rw [partsR, if_neg (by rw [isK_of b11]; decide)]
  rfl
theorem scl_named (hq : fuelP L = n + 1 + 1 + 1 + 1 + 1) (a2 : TkIs L i 1 [112] 0) (a3 : TkIs L (i + 1) 4 [61] 0) (a4 : TkIs L (i + 1 + 1) 4 [60] 0) (b0 : TkIs L (B) 2 [] 5) (b1 : TkIs L (B + 1) 4 [62] 0) (b2 : TkIs L (B + 1 + 1) 4 [44] 0) (b3 : TkIs L (B + 1 + 1 + 1) 3 [115] 0) (b4 : TkIs L (B + 1 + 1 + 1 + 1) 4 [44] 0) (b5 : TkIs L (B + 1 + 1 + 1 + 1 + 1) 4 [91] 0) (b6 : TkIs L (B + 1 + 1 + 1 + 1 + 1 + 1) 2 [] 1) (b7 : TkIs L (B + 1 + 1 + 1 + 1 + 1 + 1 + 1) 2 [] 2) (b8 : TkIs L (B + 1 + 1 + 1 + 1 + 1 + 1 + 1 + 1) 4 [93] 0) (b9 : TkIs L (B + 1 + 1 + 1 + 1 + 1 + 1 + 1 + 1 + 1) 4 [44] 0) (b10 : TkIs L (B + 1 + 1 + 1 + 1 + 1 + 1 + 1 + 1 + 1 + 1) 6 [120, 49] 0) (b11 : TkIs L (B + 1 + 1 + 1 + 1 + 1 + 1 + 1 + 1 + 1 + 1 + 1) 4 [59] 0) (e0 : TkIs L (i + 1 + 1 + 1) 4 [40] 0) (ep : primX L (i + 1 + 1 + 1) = (x, (B : Int), 0)) (hl : B < L.length) (m dp : Nat) :
    srcE L (m + 1 + 1) (.member dp) i = .ok (B + 1 + 1 + 1 + 1 + 1 + 1 + 1 + 1 + 1 + 1 + 1 + 1, [⟨3, ⟨#[]⟩, ⟨#[112]⟩, [⟨1, [⟨x, ⟨#[]⟩⟩, ⟨5, ⟨#[]⟩⟩], ⟨#[]⟩⟩, ⟨2, [], ⟨#[115]⟩⟩, ⟨3, [], ⟨#[1, 2]⟩⟩, ⟨4, [], ⟨#[120, 49]⟩⟩], (tkN L i).line, (tkN L i).col⟩]) := by
  rw [srcE, if_neg (by rw [a2.1]; decide), if_pos (by rw [a2.1]), srcE, if_neg (by rw [isK_of a3]; decide), if_pos (by rw [a2.2.1]; decide), scl_parts hq a3 a4 b0 b1 b2 b3 b4 b5 b6 b7 b8 b9 b10 b11 e0 ep hl]
  simp only
  unfold signR txN
  rw [if_pos (by rw [isK_of b11]; decide), a2.2.1]
theorem scl_eval (g m : Nat) (hm : fuelS L = m + 1 + 1 + 1 + 1 + 1) (hq : fuelP L = n + 1 + 1 + 1 + 1 + 1) (a0 : TkIs L (i) 4 [47] 0) (a1 : TkIs L (i + 1) 4 [123] 0) (a2 : TkIs L (i + 1 + 1) 1 [112] 0) (a3 : TkIs L (i + 1 + 1 + 1) 4 [61] 0) (a4 : TkIs L (i + 1 + 1 + 1 + 1) 4 [60] 0) (b0 : TkIs L (B) 2 [] 5) (b1 : TkIs L (B + 1) 4 [62] 0) (b2 : TkIs L (B + 1 + 1) 4 [44] 0) (b3 : TkIs L (B + 1 + 1 + 1) 3 [115] 0) (b4 : TkIs L (B + 1 + 1 + 1 + 1) 4 [44] 0) (b5 : TkIs L (B + 1 + 1 + 1 + 1 + 1) 4 [91] 0) (b6 : TkIs L (B + 1 + 1 + 1 + 1 + 1 + 1) 2 [] 1) (b7 : TkIs L (B + 1 + 1 + 1 + 1 + 1 + 1 + 1) 2 [] 2) (b8 : TkIs L (B + 1 + 1 + 1 + 1 + 1 + 1 + 1 + 1) 4 [93] 0) (b9 : TkIs L (B + 1 + 1 + 1 + 1 + 1 + 1 + 1 + 1 + 1) 4 [44] 0) (b10 : TkIs L (B + 1 + 1 + 1 + 1 + 1 + 1 + 1 + 1 + 1 + 1) 6 [120, 49] 0) (b11 : TkIs L (B + 1 + 1 + 1 + 1 + 1 + 1 + 1 + 1 + 1 + 1 + 1) 4 [59] 0) (b12 : TkIs L (B + 1 + 1 + 1 + 1 + 1 + 1 + 1 + 1 + 1 + 1 + 1 + 1) 4 [125] 0) (b13 : TkIs L (B + 1 + 1 + 1 + 1 + 1 + 1 + 1 + 1 + 1 + 1 + 1 + 1 + 1) 4 [59] 0) (b14 : TkIs L (B + 1 + 1 + 1 + 1 + 1 + 1 + 1 + 1 + 1 + 1 + 1 + 1 + 1 + 1) 8 [] 0) (e0 : TkIs L (i + 1 + 1 + 1 + 1 + 1) 4 [40] 0) (ep : primX L (i + 1 + 1 + 1 + 1 + 1) = (x, (B : Int), 0)) (hl : B < L.length) :
    ∃ d1 d3 : DefT, ∃ l c : Int, topsR L (g + 1 + 1) i [] = .ok [d1, ⟨3, ⟨#[]⟩, ⟨#[112]⟩, [⟨1, [⟨x, ⟨#[]⟩⟩, ⟨5, ⟨#[]⟩⟩], ⟨#[]⟩⟩, ⟨2, [], ⟨#[115]⟩⟩, ⟨3, [], ⟨#[1, 2]⟩⟩, ⟨4, [], ⟨#[120, 49]⟩⟩], l, c⟩, d3] := by
  refine ⟨⟨1, ⟨#[]⟩, ⟨#[47]⟩, [], (tkN L i).line, (tkN L i).col⟩, ⟨2, ⟨#[]⟩, ⟨#[]⟩, [], (tkN L (B + 1 + 1 + 1 + 1 + 1 + 1 + 1 + 1 + 1 + 1 + 1 + 1)).line, (tkN L (B + 1 + 1 + 1 + 1 + 1 + 1 + 1 + 1 + 1 + 1 + 1 + 1)).col⟩, (tkN L (i + 1 + 1)).line, (tkN L (i + 1 + 1)).col, ?_⟩
  have hn := scl_named hq a2 a3 a4 b0 b1 b2 b3 b4 b5 b6 b7 b8 b9 b10 b11 e0 ep hl
  have ht : topR L i = .ok (B + 1 + 1 + 1 + 1 + 1 + 1 + 1 + 1 + 1 + 1 + 1 + 1 + 1 + 1, [⟨1, ⟨#[]⟩, ⟨#[47]⟩, [], (tkN L i).line, (tkN L i).col⟩, ⟨3, ⟨#[]⟩, ⟨#[112]⟩, [⟨1, [⟨x, ⟨#[]⟩⟩, ⟨5, ⟨#[]⟩⟩], ⟨#[]⟩⟩, ⟨2, [], ⟨#[115]⟩⟩, ⟨3, [], ⟨#[1, 2]⟩⟩, ⟨4, [], ⟨#[120, 49]⟩⟩], (tkN L (i + 1 + 1)).line, (tkN L (i + 1 + 1)).col⟩, ⟨2, ⟨#[]⟩, ⟨#[]⟩, [], (tkN L (B + 1 + 1 + 1 + 1 + 1 + 1 + 1 + 1 + 1 + 1 + 1 + 1)).line, (tkN L (B + 1 + 1 + 1 + 1 + 1 + 1 + 1 + 1 + 1 + 1 + 1 + 1)).col⟩]) := by
    unfold topR
    rw [if_neg (by rw [a0.1]; decide), if_pos (by rw [isK_of a0]; decide)]
    unfold endR
    rw [hm, srcE, if_pos (by rw [isK_of a1]; decide), if_neg (by omega), srcE, if_neg (by rw [isK_of a2]; decide), hn (m + 1) 0]
    simp only
    rw [srcE, if_pos (by rw [isK_of b12]; decide)]
    simp only
    unfold signR
    rw [if_pos (by rw [isK_of b13]; decide)]
    rfl
  rw [topsR, if_neg (by rw [a0.1]; decide), ht]
  simp only
  rw [topsR, if_pos (by rw [b14.1])]
  rfl
end
end Go.Proofs.Ytofhcgbihonckaa

namespace Go.Proofs.Ytofhcgbihonckaa
open Go.RowKit

theorem xlen_smallS {k : Nat} (h : k ≤ 5) : xlen k ≤ 1000 := by
  have : k = 0 ∨ k = 1 ∨ k = 2 ∨ k = 3 ∨ k = 4 ∨ k = 5 := by omega
  rcases this with rfl | rfl | rfl | rfl | rfl | rfl <;> decide
theorem xcnt_smallS {k : Nat} (h : k ≤ 5) : xcnt k ≤ 1000 := by
  have : k = 0 ∨ k = 1 ∨ k = 2 ∨ k = 3 ∨ k = 4 ∨ k = 5 := by omega
  rcases this with rfl | rfl | rfl | rfl | rfl | rfl <;> decide
theorem tkX_cvS (l : List Tok) : l.map tkX = (l.map bare).map cvT := by rw [List.map_map]; rfl
theorem scl_plain {k : Nat} {a : List UInt8} {x : Int} (h : XG k a x) (hk : k ≤ 5) : ∃ d1 d3 : DefT, ∃ l c : Int,
    srcT (sclU ++ ((40 :: (a ++ [41])) ++ sclV)) 0 = ([d1, ⟨3, ⟨#[]⟩, ⟨#[112]⟩, [⟨1, [⟨x, ⟨#[]⟩⟩, ⟨5, ⟨#[]⟩⟩], ⟨#[]⟩⟩, ⟨2, [], ⟨#[115]⟩⟩, ⟨3, [], ⟨#[1, 2]⟩⟩, ⟨4, [], ⟨#[120, 49]⟩⟩], l, c⟩, d3], (0, 0, 0), 0) := by
  obtain ⟨_, _, hl, T, hc, hT, hR⟩ := h
  have b1 := xlen_smallS hk
  have b2 := xcnt_smallS hk
  have hX : Lx (40 :: (a ++ [41])) ([(4, [40], 0)] ++ (T ++ [(4, [41], 0)])) (sclV ++ []) := Lx.append (x := [40]) (Lx.lpar _) (Lx.append (hT _ (.inr ⟨_, rfl⟩)) (Lx.rpar _))
  have hA : Lx (sclU ++ ((40 :: (a ++ [41])) ++ sclV)) (sclP ++ (([(4, [40], 0)] ++ (T ++ [(4, [41], 0)])) ++ sclQ)) [] := Lx.append (scl_pre _) (Lx.append (by simpa using hX) scl_post)
  obtain ⟨L, hL, hb⟩ := hA.read (by simp [sclU, sclV]; omega) (by simp [sclP, sclQ]; omega)
  have hlen : L.length = T.length + 22 := by
    have := congrArg List.length hb
    simp [sclP, sclQ] at this
    omega
  obtain ⟨B, hB⟩ : ∃ B, B = T.length + 7 := ⟨_, rfl⟩
  have hQ : ∀ n : Nat, (L.map bare)[B + n]? = (sclQ ++ [(8, [], 0)])[n]? := by
    intro n
    rw [hb, show sclP ++ (([(4, [40], 0)] ++ (T ++ [(4, [41], 0)])) ++ sclQ) ++ [(8, [], 0)] = (sclP ++ ([(4, [40], 0)] ++ (T ++ [(4, [41], 0)]))) ++ (sclQ ++ [(8, [], 0)]) from by simp, List.getElem?_append_right (by simp [sclP]; omega)]
    congr 1
    simp [sclP]; omega
  have hP : ∀ (n : Nat) (b : Int × List UInt8 × Int), sclP[n]? = some b → (L.map bare)[n]? = some b := by
    intro n b h
    rw [hb, List.append_assoc, List.getElem?_append_left (List.getElem?_eq_some_iff.1 h).1]
    exact h
  have h5 : (L.map bare)[5]? = some (4, [40], 0) := by
    rw [hb]; rfl
  have hcv : L.map tkX = (L.map bare).map cvT := tkX_cvS L
  have hat : AtT (L.map tkX) 6 (T.map cvT) := by
    rw [hcv, hb]
    exact ⟨([(4, [41], 0)] ++ sclQ ++ [(8, [], 0)]).map cvT, by simp [sclP]⟩
  have s5 : sgnT (L.map tkX) 5 = ⟨#[40]⟩ := by
    unfold sgnT
    rw [hcv, List.getElem?_map, h5]
    rfl
  have h41 : (L.map bare)[6 + T.length]? = some (4, [41], 0) := by
    rw [hb, show sclP ++ (([(4, [40], 0)] ++ (T ++ [(4, [41], 0)])) ++ sclQ) ++ [(8, [], 0)] = (sclP ++ ([(4, [40], 0)] ++ T)) ++ ([(4, [41], 0)] ++ (sclQ ++ [(8, [], 0)])) from by simp, List.getElem?_append_right (by simp [sclP]; omega)]
    have : 6 + T.length - (sclP ++ ([(4, [40], 0)] ++ T)).length = 0 := by simp [sclP]; omega
    rw [this]; rfl
  have s41 : sgnT (L.map tkX) (6 + T.length) = ⟨#[41]⟩ := by
    unfold sgnT
    rw [hcv, List.getElem?_map, h41]
    rfl
  have hw := hR (L.map tkX) 6 1 (by omega) hat (by rw [s41]; exact .inr (.inl rfl))
  have hp := rd_par (d := 0) (i := 5) s5 hw s41
  have ep : primX L 5 = (x, (B : Int), 0) := by
    unfold primX
    rw [hp.evF trivial]
    show (x, ((6 + T.length + 1 : Nat) : Int), (0 : Int)) = _
    rw [show 6 + T.length + 1 = B from by omega]
  have hlt : B < L.length := by omega
  have hm : fuelS L = (3 * L.length - 2) + 1 + 1 + 1 + 1 + 1 := by unfold fuelS; omega
  have hq : fuelP L = (L.length - 4) + 1 + 1 + 1 + 1 + 1 := by unfold fuelP; omega
  have hg : fuelP L = (L.length - 1) + 1 + 1 := by unfold fuelP; omega
  obtain ⟨d1, d3, l, c, he⟩ := scl_eval (i := 0) (B := B) (x := x) (L.length - 1) _ hm hq
    (tk_is (hP 0 _ rfl)) (tk_is (hP 1 _ rfl)) (tk_is (hP 2 _ rfl)) (tk_is (hP 3 _ rfl)) (tk_is (hP 4 _ rfl))
    (tk_is ((hQ 0).trans rfl)) (tk_is ((hQ 1).trans rfl)) (tk_is ((hQ 2).trans rfl)) (tk_is ((hQ 3).trans rfl)) (tk_is ((hQ 4).trans rfl)) (tk_is ((hQ 5).trans rfl)) (tk_is ((hQ 6).trans rfl)) (tk_is ((hQ 7).trans rfl)) (tk_is ((hQ 8).trans rfl)) (tk_is ((hQ 9).trans rfl)) (tk_is ((hQ 10).trans rfl)) (tk_is ((hQ 11).trans rfl)) (tk_is ((hQ 12).trans rfl)) (tk_is ((hQ 13).trans rfl)) (tk_is ((hQ 14).trans rfl))
    (tk_is h5) ep hlt
  refine ⟨d1, d3, l, c, ?_⟩
  unfold srcT
  rw [hL]
  simp only
  rw [if_neg (by simp), hg, he]
end Go.Proofs.Ytofhcgbihonckaa
