/- The trees of AddressComposes, AddressReads and AddressFlat, in plain Lean: numbers of values, and what address computes of trees of one row each. -/
import Derived.Test.YtjfkjnakmmkkiaaLawI
namespace Go.Proofs.Ytjfkjnakmmkkiaa

theorem wordT_bytes4 (n : Int) (h0 : 0 ≤ n) (h1 : n ≤ 4294967295) : wordT (UInt8.ofNat (n / 16777216).toNat) (UInt8.ofNat (n / 65536 % 256).toNat) (UInt8.ofNat (n / 256 % 256).toNat) (UInt8.ofNat (n % 256).toNat) = n := by
  unfold wordT
  rw [u8_toNat (by omega) (by omega), u8_toNat (by omega) (by omega), u8_toNat (by omega) (by omega), u8_toNat (by omega) (by omega)]
  omega
theorem cells_grow : ∀ l : List Int, (∀ x ∈ l, 0 ≤ x ∧ x ≤ 4294967295) → cellsF (growT l) = l
  | [], _ => rfl
  | n :: r, h => by
    show wordT _ _ _ _ :: cellsF (growT r) = _
    rw [wordT_bytes4 n (h n (by simp)).1 (h n (by simp)).2, cells_grow r (fun x hx => h x (by simp [hx]))]
theorem growT_len : ∀ l : List Int, (growT l).length = 4 * l.length
  | [] => rfl
  | n :: r => by
    show (growT r).length + 4 = _
    rw [growT_len r]; simp; omega
theorem growT_app (a b : List Int) : growT (a ++ b) = growT a ++ growT b := by simp [growT]
/-- The value of cells. -/
def valT (l : List Int) : ByteArray := ⟨(growT l).toArray⟩
theorem valT_size (l : List Int) : (valT l).size = 4 * l.length := by
  show (growT l).toArray.size = _
  rw [List.size_toArray, growT_len]
theorem cellsT_val (l : List Int) (hl : l ≠ []) (h : ∀ x ∈ l, 0 ≤ x ∧ x ≤ 4294967295) : cellsT (valT l) = l := by
  have hz : 0 < l.length := List.length_pos_iff.2 hl
  unfold cellsT
  rw [if_pos (by unfold cellsOkB; rw [valT_size]; simp; omega)]
  exact cells_grow l h
/-- The number n as c cells, and a row of numbers. -/
def asT (n c : Int) : List Int := if c = 2 then [n / 4294967296, n % 4294967296] else [n]
def rowAs : List Int → List Int → List Int
  | n :: ns, c :: cs => asT n c ++ rowAs ns cs
  | _, _ => []
def FitW (n c : Int) : Prop := 0 ≤ n ∧ n ≤ 4611686018427387903 ∧ (c = 2 ∨ c = 1 ∧ n ≤ 4294967295)
def FitsW : List Int → List Int → Prop
  | n :: ns, c :: cs => FitW n c ∧ FitsW ns cs
  | [], [] => True
  | _, _ => False
theorem rowF_as : ∀ (ns cs r : List Int), FitsW ns cs → rowF cs (rowAs ns cs ++ r) = some (ns, r)
  | [], [], r, _ => rfl
  | n :: ns, c :: cs, r, h => by
    obtain ⟨⟨h0, h1, h2⟩, hr⟩ := h
    show rowF (c :: cs) ((asT n c ++ rowAs ns cs) ++ r) = _
    unfold asT
    rcases h2 with rfl | ⟨rfl, h3⟩
    · rw [if_pos rfl]
      simp only [rowF, List.cons_append, List.nil_append, List.headD_cons, List.getD_cons_succ, List.getD_cons_zero, List.drop_succ_cons, List.drop_zero, if_true]
      rw [if_neg (by omega), rowF_as ns cs r hr]
      simp; omega
    · rw [if_neg (by omega)]
      simp only [rowF, List.cons_append, List.nil_append, List.headD_cons, List.drop_succ_cons, List.drop_zero]
      rw [if_neg (by omega), rowF_as ns cs r hr]
      rfl
theorem asT_ne (n c : Int) : asT n c ≠ [] := by unfold asT; split <;> simp
/-- k rows. -/
def rowsAs (cs : List Int) : List (List Int) → List Int
  | [] => []
  | ns :: r => rowAs ns cs ++ rowsAs cs r
theorem rowsF_as (c : Int) (cs : List Int) : ∀ (l : List (List Int)) (f : Nat), (∀ ns ∈ l, FitsW ns (c :: cs)) → l.length ≤ f → rowsF (c :: cs) f (rowsAs (c :: cs) l) = some l := by
  intro l
  induction l with
  | nil => intro f _ _; cases f <;> simp [rowsF, rowsAs]
  | cons ns l ih =>
    intro f h hf
    obtain ⟨f, rfl⟩ : ∃ g, f = g + 1 := ⟨f - 1, by simp at hf; omega⟩
    have hn := h ns (by simp)
    have hne : rowsAs (c :: cs) (ns :: l) ≠ [] := by
      cases ns with
      | nil => exact absurd hn (by simp [FitsW])
      | cons n ns => show (asT n c ++ rowAs ns cs) ++ _ ≠ []; simp [asT_ne]
    rw [rowsF, if_neg hne]
    show (rowF (c :: cs) (rowAs ns (c :: cs) ++ rowsAs (c :: cs) l)).bind _ = _
    rw [rowF_as _ _ _ hn]
    simp only [Option.bind_some]
    rw [ih f (fun x hx => h x (by simp [hx])) (by simp at hf; omega)]
    rfl
theorem asT_len (n c : Int) (h : c = 1 ∨ c = 2) : ((asT n c).length : Int) = c := by
  unfold asT; rcases h with rfl | rfl <;> simp
theorem rowAs_len : ∀ (ns cs : List Int), FitsW ns cs → ((rowAs ns cs).length : Int) = sumT cs
  | [], [], _ => rfl
  | n :: ns, c :: cs, h => by
    obtain ⟨⟨h0, h1, h2⟩, hr⟩ := h
    rw [sumT_cons, ← rowAs_len ns cs hr]
    show ((asT n c ++ rowAs ns cs).length : Int) = _
    rw [List.length_append]; have := asT_len n c (by omega); push_cast; omega
theorem rowsAs_len (c : List Int) : ∀ (l : List (List Int)), (∀ ns ∈ l, FitsW ns c) → ((rowsAs c l).length : Int) = l.length * sumT c
  | [], _ => by simp [rowsAs]
  | ns :: l, h => by
    show ((rowAs ns c ++ rowsAs c l).length : Int) = _
    rw [List.length_append]
    push_cast
    rw [rowAs_len ns c (h ns (by simp)), rowsAs_len c l (fun x hx => h x (by simp [hx])), List.length_cons]; push_cast; rw [Int.add_mul]; omega
theorem asT_bd (n c : Int) (h : FitW n c) : ∀ x ∈ asT n c, 0 ≤ x ∧ x ≤ 4294967295 := by
  obtain ⟨h0, h1, h2⟩ := h
  unfold asT
  intro x hx
  split at hx
  · simp at hx; rcases hx with rfl | rfl <;> omega
  · simp at hx; subst hx; omega
theorem rowAs_bd : ∀ (ns cs : List Int), FitsW ns cs → ∀ x ∈ rowAs ns cs, 0 ≤ x ∧ x ≤ 4294967295
  | [], [], _ => by simp [rowAs]
  | n :: ns, c :: cs, h => by
    intro x hx
    rcases List.mem_append.1 (show x ∈ asT n c ++ rowAs ns cs from hx) with hx | hx
    · exact asT_bd n c h.1 x hx
    · exact rowAs_bd ns cs h.2 x hx
theorem rowsAs_bd (c : List Int) : ∀ (l : List (List Int)), (∀ ns ∈ l, FitsW ns c) → ∀ x ∈ rowsAs c l, 0 ≤ x ∧ x ≤ 4294967295
  | [], _ => by simp [rowsAs]
  | ns :: l, h => by
    intro x hx
    rcases List.mem_append.1 (show x ∈ rowAs ns c ++ rowsAs c l from hx) with hx | hx
    · exact rowAs_bd ns c (h ns (by simp)) x hx
    · exact rowsAs_bd c l (fun x hx => h x (by simp [hx])) x hx
theorem rowsAs_ge (c : Int) (cs : List Int) : ∀ (l : List (List Int)), (∀ ns ∈ l, FitsW ns (c :: cs)) → l.length ≤ (rowsAs (c :: cs) l).length
  | [], _ => by simp
  | ns :: l, h => by
    have h2 := rowsAs_ge c cs l (fun x hx => h x (by simp [hx]))
    have hn := h ns (by simp)
    show _ ≤ (rowAs ns (c :: cs) ++ rowsAs (c :: cs) l).length
    cases ns with
    | nil => exact absurd hn (by simp [FitsW])
    | cons n ns =>
      show _ ≤ ((asT n c ++ rowAs ns cs) ++ _).length
      have : 0 < (asT n c).length := List.length_pos_iff.2 (asT_ne n c)
      simp; omega
/-- What a value of rows reads as. -/
theorem rowsT_as (c : Int) (cs : List Int) (l : List (List Int)) (hl : l ≠ []) (h : ∀ ns ∈ l, FitsW ns (c :: cs)) : rowsT (valT (rowsAs (c :: cs) l)) (c :: cs) = (l, 0) := by
  have hg := rowsAs_ge c cs l h
  have hz : 0 < l.length := List.length_pos_iff.2 hl
  have hne : rowsAs (c :: cs) l ≠ [] := by intro e; rw [e] at hg; simp at hg; exact hl hg
  unfold rowsT
  rw [cellsT_val _ hne (rowsAs_bd _ l h), valT_size, rowsF_as c cs l _ h hg]
  rw [if_neg]
  · rfl
  · have := rowsAs_len (c :: cs) l h
    push_cast
    rw [this]
    intro hh
    apply hh
    rw [show 4 * ((l.length : Int) * sumT (c :: cs)) = (l.length : Int) * (4 * sumT (c :: cs)) from by rw [Int.mul_left_comm]]
    exact Int.mul_emod_left _ _
theorem rowsT_empty (v : ByteArray) (ws : List Int) (h : v.size = 0) : rowsT v ws = ([], 0) := by
  unfold rowsT
  have : cellsT v = [] := by unfold cellsT cellsOkB; rw [h]; rfl
  rw [h, this]
  simp [rowsF, rowsE]
theorem regF_as : ∀ (l : List (List Int)), (∀ r ∈ l, fitsB (r.getD 0 0) (r.getD 1 0) = true) → regF l = some (l.map fun r => (r.getD 0 0, r.getD 1 0))
  | [], _ => rfl
  | r :: l, h => by
    rw [regF, if_pos (h r (by simp)), regF_as l (fun x hx => h x (by simp [hx]))]
    rfl
theorem aCheckF_all {T : List NodeT} (h : ∀ i, i < T.length → nodeErr T i = 0) : ∀ f k, k + f ≤ T.length → aCheckF T f k = (0, 0) := by
  intro f
  induction f with
  | zero => intro k _; rfl
  | succ f ih => intro k hk; rw [aCheckF, h k (by omega), if_neg (by simp)]; exact ih (k + 1) (by omega)
theorem aCheck_all {T : List NodeT} (h0 : checkT T = 0) (h : ∀ i, i < T.length → nodeErr T i = 0) : aCheckT T = (0, 0) := by
  unfold aCheckT
  rw [h0, if_neg (by simp)]
  exact aCheckF_all h _ _ (by omega)
theorem nodeErr_of {T : List NodeT} {k : Nat} (h1 : (pairT T k).2.2 = 0) (h2 : (regionsT T k).2 = 0) (h3 : k = 0 ∨ (windowsT T k).2.2 = 0) : nodeErr T k = 0 := by
  unfold nodeErr
  rw [h1, h2, if_neg (by simp), if_neg (by simp)]
  rcases h3 with rfl | h3
  · rw [if_pos rfl]
  · split
    · rfl
    · exact h3
/-- Regions by their parts. -/
theorem regions_rows {T : List NodeT} {k : Nat} {a s : Int} {v : ByteArray} {b : Bool} {l : List (List Int)} (hk : k ≠ 0) (hp : pairT T (parOf T k) = (a, s, 0)) (hv : valueT T k nmReg = (v, b)) (hr : rowsT v [a, s] = (l, 0))
    (hf : ∀ r ∈ l, fitsB (r.getD 0 0) (r.getD 1 0) = true) : regionsT T k = (l.map fun r => (r.getD 0 0, r.getD 1 0), 0) := by
  unfold regionsT
  rw [if_neg hk, hp]
  simp only
  rw [if_neg (by simp), hv]
  simp only
  rw [hr]
  simp only
  rw [if_neg (by simp), regF_as l hf]
  rfl
theorem winF_one {a b s : Int} (h1 : fitsB a s = true) (h2 : fitsB b s = true) : winF [[a, b, s]] = some [(a, b, s)] := by
  rw [winF, if_pos ⟨h1, h2⟩]; rfl
theorem windows_one {T : List NodeT} {k : Nat} {ac sc z up a b s : Int} {v : ByteArray} (hv : valueT T k nmRanges = (v, true)) (hv0 : v.size ≠ 0) (hp : pairT T k = (ac, sc, 0)) (hu : pairT T (parOf T k) = (up, z, 0))
    (hr : rowsT v [ac, up, sc] = ([[a, b, s]], 0)) (h1 : fitsB a s = true) (h2 : fitsB b s = true) : windowsT T k = ([(a, b, s)], false, 0) := by
  unfold windowsT
  rw [hv]
  simp only
  rw [if_neg (by simp [hv0]), hp]
  simp only
  rw [if_neg (by simp), hu]
  simp only
  rw [if_neg (by simp), hr]
  simp only
  rw [if_neg (by simp), winF_one h1 h2]
  rfl
theorem aTrans_of {T : List NodeT} {k i : Nat} {l : List (Int × Int)} {p : Int × Int} (hc : aCheckT T = (0, 0)) (hk : k < T.length) (hr : regionsT T k = (l, 0)) (hi : i < l.length) (hp : l[i] = p) : aTransT T k i = atRegion T k p := by
  unfold aTransT
  rw [hc, if_neg (by simp), if_neg (by omega), Int.toNat_natCast, hr, if_neg (by show ¬ ((i : Int) < 0 ∨ (l.length : Int) ≤ i); omega), Int.toNat_natCast]
  rw [List.getD_eq_getElem?_getD, List.getElem?_eq_getElem hi, hp]
  rfl
theorem fitsB_of {b s : Int} (h : s ≤ 4611686018427387903 - b) : fitsB b s = true := by unfold fitsB; simp; omega
theorem findW_one {b s : Int} {p : Int × Int × Int} (h : inWinB b s p = true) : findW b s [p] = 0 := by
  unfold findW; simp [List.findIdx?_cons, h]
theorem inWin_of {b s x y z : Int} (h : x ≤ b) (h2 : b - x ≤ z - max s 1) : inWinB b s (x, y, z) = true := by unfold inWinB; simp; omega

/-! ### AddressComposes -/
def sOuter : ByteArray := ⟨#[111, 117, 116, 101, 114]⟩
def sInner : ByteArray := ⟨#[105, 110, 110, 101, 114]⟩
def tComp (a b c k : Int) : List NodeT := [⟨-1, ByteArray.empty, []⟩, ⟨0, sOuter, [⟨sRanges, valT [a, b, 65536]⟩]⟩, ⟨1, sInner, [⟨sRanges, valT [0, a, 8192]⟩]⟩, ⟨2, sDev, [⟨sReg, valT [c, k]⟩]⟩]
def tComp2 (a b c k : Int) : List NodeT := [⟨-1, ByteArray.empty, []⟩, ⟨0, sOuter, [⟨sRanges, valT [a, b, 65536]⟩]⟩, ⟨1, sInner, [⟨sReg, valT [c + a, k]⟩]⟩, ⟨2, sDev, [⟨sReg, valT [c, k]⟩]⟩]
section
variable {a b c k : Int}
theorem fit1 {n : Int} (h0 : 0 ≤ n) (h1 : n ≤ 4294967295) : FitW n 1 := ⟨h0, by omega, .inr ⟨rfl, h1⟩⟩
theorem rows_two {x y : Int} (hx0 : 0 ≤ x) (hx1 : x ≤ 4294967295) (hy0 : 0 ≤ y) (hy1 : y ≤ 4294967295) : rowsT (valT [x, y]) [1, 1] = ([[x, y]], 0) :=
  rowsT_as 1 [1] [[x, y]] (by simp) (by intro ns hn; simp at hn; subst hn; exact ⟨fit1 hx0 hx1, fit1 hy0 hy1, trivial⟩)
theorem rows_three {x y z : Int} (hx0 : 0 ≤ x) (hx1 : x ≤ 4294967295) (hy0 : 0 ≤ y) (hy1 : y ≤ 4294967295) (hz0 : 0 ≤ z) (hz1 : z ≤ 4294967295) : rowsT (valT [x, y, z]) [1, 1, 1] = ([[x, y, z]], 0) :=
  rowsT_as 1 [1, 1] [[x, y, z]] (by simp) (by intro ns hn; simp at hn; subst hn; exact ⟨fit1 hx0 hx1, fit1 hy0 hy1, fit1 hz0 hz1, trivial⟩)
theorem reg_two {T : List NodeT} {k : Nat} {x y : Int} {b : Bool} (hk : k ≠ 0) (hp : pairT T (parOf T k) = (1, 1, 0)) (hv : valueT T k nmReg = (valT [x, y], b)) (hx0 : 0 ≤ x) (hx1 : x ≤ 4294967295) (hy0 : 0 ≤ y) (hy1 : y ≤ 4294967295) : regionsT T k = ([(x, y)], 0) :=
  regions_rows hk hp hv (rows_two hx0 hx1 hy0 hy1) (by intro r hr; simp at hr; subst hr; exact fitsB_of (by simp; omega))
theorem win_three {T : List NodeT} {k : Nat} {x y z : Int} (hp : pairT T k = (1, 1, 0)) (hu : pairT T (parOf T k) = (1, 1, 0)) (hv : valueT T k nmRanges = (valT [x, y, z], true)) (hx0 : 0 ≤ x) (hx1 : x ≤ 4294967295) (hy0 : 0 ≤ y) (hy1 : y ≤ 4294967295) (hz0 : 0 ≤ z) (hz1 : z ≤ 4294967295) : windowsT T k = ([(x, y, z)], false, 0) :=
  windows_one hv (by rw [valT_size]; simp) hp hu (rows_three hx0 hx1 hy0 hy1 hz0 hz1) (fitsB_of (by omega)) (fitsB_of (by omega))

theorem tComp_trans (ha0 : 0 ≤ a) (ha1 : a ≤ 65535) (hb0 : 0 ≤ b) (hb1 : b ≤ 65535) (hc0 : 0 ≤ c) (hc1 : c ≤ 4095) (hk0 : 0 ≤ k) (hk1 : k ≤ 199) : aTransT (tComp a b c k) 3 0 = ((c + b, k), 0) := by
  have hch : checkT (tComp a b c k) = 0 := by kernel_rfl
  have p0 : pairT (tComp a b c k) 0 = (1, 1, 0) := by kernel_rfl
  have p1 : pairT (tComp a b c k) 1 = (1, 1, 0) := by kernel_rfl
  have p2 : pairT (tComp a b c k) 2 = (1, 1, 0) := by kernel_rfl
  have p3 : pairT (tComp a b c k) 3 = (1, 1, 0) := by kernel_rfl
  have r0 : regionsT (tComp a b c k) 0 = ([], 0) := by kernel_rfl
  have r1 : regionsT (tComp a b c k) 1 = ([], 0) := by kernel_rfl
  have r2 : regionsT (tComp a b c k) 2 = ([], 0) := by kernel_rfl
  have r3 : regionsT (tComp a b c k) 3 = ([(c, k)], 0) := reg_two (by decide) p2 (by kernel_rfl : valueT (tComp a b c k) 3 nmReg = (valT [c, k], true)) hc0 (by omega) hk0 (by omega)
  have w1 : windowsT (tComp a b c k) 1 = ([(a, b, 65536)], false, 0) := win_three p1 p0 (by kernel_rfl) ha0 (by omega) hb0 (by omega) (by omega) (by omega)
  have w2 : windowsT (tComp a b c k) 2 = ([(0, a, 8192)], false, 0) := win_three p2 p1 (by kernel_rfl) (by omega) (by omega) ha0 (by omega) (by omega) (by omega)
  have w3 : windowsT (tComp a b c k) 3 = ([], false, 0) := by kernel_rfl
  have hck : aCheckT (tComp a b c k) = (0, 0) := aCheck_all hch (by
    intro i hi
    have hi : i < 4 := hi
    have : i = 0 ∨ i = 1 ∨ i = 2 ∨ i = 3 := by omega
    rcases this with rfl | rfl | rfl | rfl
    · exact nodeErr_of (by rw [show ((0 : Nat) : Int) = 0 from rfl, p0]) (by rw [r0]) (.inl rfl)
    · exact nodeErr_of (by rw [show ((1 : Nat) : Int) = 1 from rfl, p1]) (by rw [r1]) (.inr (by rw [w1]))
    · exact nodeErr_of (by rw [show ((2 : Nat) : Int) = 2 from rfl, p2]) (by rw [r2]) (.inr (by rw [w2]))
    · exact nodeErr_of (by rw [show ((3 : Nat) : Int) = 3 from rfl, p3]) (by rw [r3]) (.inr (by rw [w3])))
  have ht := aTrans_of (i := 0) (p := (c, k)) hck (show 3 < (tComp a b c k).length from by show 3 < 4; omega) r3 (by simp) rfl
  rw [show ((3 : Nat) : Int) = 3 from rfl, show ((0 : Nat) : Int) = 0 from rfl] at ht
  rw [ht]
  have e1 : transF (tComp a b c k) k 4 2 c = some (c + b) := by
    simp only [transF]
    rw [if_neg (by omega), show (2 : Int).toNat = 2 from rfl, w2]
    simp only
    rw [if_neg (by simp), findW_one (inWin_of (by omega) (by omega)), if_neg (by omega), show parOf (tComp a b c k) 2 = 1 from rfl, if_neg (by omega), show (1 : Int).toNat = 1 from rfl, w1]
    simp only
    rw [if_neg (by simp)]
    simp only [show (0 : Int).toNat = 0 from rfl, List.getD_cons_zero]
    rw [findW_one (inWin_of (by omega) (by omega)), if_neg (by omega), show parOf (tComp a b c k) 1 = 0 from rfl, if_pos (by omega)]
    simp only [show (0 : Int).toNat = 0 from rfl, List.getD_cons_zero]
    congr 1; omega
  unfold atRegion translateT
  rw [show (tComp a b c k).length = 4 from rfl, show parOf (tComp a b c k) 3 = 2 from rfl, e1]
  rfl
theorem tComp2_trans (ha0 : 0 ≤ a) (ha1 : a ≤ 65535) (hb0 : 0 ≤ b) (hb1 : b ≤ 65535) (hc0 : 0 ≤ c) (hc1 : c ≤ 4095) (hk0 : 0 ≤ k) (hk1 : k ≤ 199) : aTransT (tComp2 a b c k) 2 0 = ((c + b, k), 0) := by
  have hch : checkT (tComp2 a b c k) = 0 := by kernel_rfl
  have p0 : pairT (tComp2 a b c k) 0 = (1, 1, 0) := by kernel_rfl
  have p1 : pairT (tComp2 a b c k) 1 = (1, 1, 0) := by kernel_rfl
  have p2 : pairT (tComp2 a b c k) 2 = (1, 1, 0) := by kernel_rfl
  have p3 : pairT (tComp2 a b c k) 3 = (1, 1, 0) := by kernel_rfl
  have r0 : regionsT (tComp2 a b c k) 0 = ([], 0) := by kernel_rfl
  have r1 : regionsT (tComp2 a b c k) 1 = ([], 0) := by kernel_rfl
  have r2 : regionsT (tComp2 a b c k) 2 = ([(c + a, k)], 0) := reg_two (by decide) p1 (by kernel_rfl : valueT (tComp2 a b c k) 2 nmReg = (valT [c + a, k], true)) (by omega) (by omega) hk0 (by omega)
  have r3 : regionsT (tComp2 a b c k) 3 = ([(c, k)], 0) := reg_two (by decide) p2 (by kernel_rfl : valueT (tComp2 a b c k) 3 nmReg = (valT [c, k], true)) hc0 (by omega) hk0 (by omega)
  have w1 : windowsT (tComp2 a b c k) 1 = ([(a, b, 65536)], false, 0) := win_three p1 p0 (by kernel_rfl) ha0 (by omega) hb0 (by omega) (by omega) (by omega)
  have w2 : windowsT (tComp2 a b c k) 2 = ([], false, 0) := by kernel_rfl
  have w3 : windowsT (tComp2 a b c k) 3 = ([], false, 0) := by kernel_rfl
  have hck : aCheckT (tComp2 a b c k) = (0, 0) := aCheck_all hch (by
    intro i hi
    have hi : i < 4 := hi
    have : i = 0 ∨ i = 1 ∨ i = 2 ∨ i = 3 := by omega
    rcases this with rfl | rfl | rfl | rfl
    · exact nodeErr_of (by rw [show ((0 : Nat) : Int) = 0 from rfl, p0]) (by rw [r0]) (.inl rfl)
    · exact nodeErr_of (by rw [show ((1 : Nat) : Int) = 1 from rfl, p1]) (by rw [r1]) (.inr (by rw [w1]))
    · exact nodeErr_of (by rw [show ((2 : Nat) : Int) = 2 from rfl, p2]) (by rw [r2]) (.inr (by rw [w2]))
    · exact nodeErr_of (by rw [show ((3 : Nat) : Int) = 3 from rfl, p3]) (by rw [r3]) (.inr (by rw [w3])))
  have ht := aTrans_of (i := 0) (p := (c + a, k)) hck (show 2 < (tComp2 a b c k).length from by show 2 < 4; omega) r2 (by simp) rfl
  rw [show ((2 : Nat) : Int) = 2 from rfl, show ((0 : Nat) : Int) = 0 from rfl] at ht
  rw [ht]
  have e1 : transF (tComp2 a b c k) k 4 1 (c + a) = some (c + b) := by
    simp only [transF]
    rw [if_neg (by omega), show (1 : Int).toNat = 1 from rfl, w1]
    simp only
    rw [if_neg (by simp), findW_one (inWin_of (by omega) (by omega)), if_neg (by omega), show parOf (tComp2 a b c k) 1 = 0 from rfl, if_pos (by omega)]
    simp only [show (0 : Int).toNat = 0 from rfl, List.getD_cons_zero]
    congr 1; omega
  unfold atRegion translateT
  rw [show (tComp2 a b c k).length = 4 from rfl, show parOf (tComp2 a b c k) 2 = 1 from rfl, e1]
  rfl
end
end Go.Proofs.Ytjfkjnakmmkkiaa
