/- The trees of AddressReads and AddressFlat, in plain Lean. -/
import Derived.Test.YtjfkjnakmmkkiaaLawK
namespace Go.Proofs.Ytjfkjnakmmkkiaa

/-! ### AddressReads -/
def tReads (ac sc base size : Int) (k : Nat) : List NodeT := [⟨-1, ByteArray.empty, [⟨nmAC, valT [ac]⟩, ⟨nmSC, valT [sc]⟩]⟩, ⟨0, sDev, [⟨sReg, valT (rowsAs [ac, sc] (List.replicate k [base, size]))⟩]⟩]
section
variable {ac sc base size : Int} {k : Nat}
theorem tReads_check (ha : ac = 1 ∨ ac = 2) (hs : sc = 1 ∨ sc = 2) (hk1 : 1 ≤ k) (hk4 : k ≤ 4) : checkT (tReads ac sc base size k) = 0 := by
  have : k = 1 ∨ k = 2 ∨ k = 3 ∨ k = 4 := by omega
  rcases ha with rfl | rfl <;> rcases hs with rfl | rfl <;> rcases this with rfl | rfl | rfl | rfl <;> (show checkT _ = 0; kernel_rfl)
theorem tReads_pair (ha : ac = 1 ∨ ac = 2) (hs : sc = 1 ∨ sc = 2) (hk1 : 1 ≤ k) (hk4 : k ≤ 4) : pairT (tReads ac sc base size k) 0 = (ac, sc, 0) ∧ pairT (tReads ac sc base size k) 1 = (1, 1, 0) := by
  have : k = 1 ∨ k = 2 ∨ k = 3 ∨ k = 4 := by omega
  rcases ha with rfl | rfl <;> rcases hs with rfl | rfl <;> rcases this with rfl | rfl | rfl | rfl <;> exact ⟨by kernel_rfl, by kernel_rfl⟩
theorem tReads_value (ha : ac = 1 ∨ ac = 2) (hs : sc = 1 ∨ sc = 2) (hk1 : 1 ≤ k) (hk4 : k ≤ 4) : valueT (tReads ac sc base size k) 1 nmReg = (valT (rowsAs [ac, sc] (List.replicate k [base, size])), true) ∧ windowsT (tReads ac sc base size k) 1 = ([], false, 0) := by
  have : k = 1 ∨ k = 2 ∨ k = 3 ∨ k = 4 := by omega
  rcases ha with rfl | rfl <;> rcases hs with rfl | rfl <;> rcases this with rfl | rfl | rfl | rfl <;> exact ⟨by kernel_rfl, by kernel_rfl⟩
theorem tReads_regions (ha : ac = 1 ∨ ac = 2) (hs : sc = 1 ∨ sc = 2) (hk1 : 1 ≤ k) (hk4 : k ≤ 4) (hb : FitW base ac) (hz : FitW size sc) (hf : size ≤ 4611686018427387903 - base) :
    regionsT (tReads ac sc base size k) 1 = (List.replicate k (base, size), 0) := by
  have h := regions_rows (T := tReads ac sc base size k) (k := 1) (by omega) (tReads_pair ha hs hk1 hk4).1 (tReads_value ha hs hk1 hk4).1
    (rowsT_as ac [sc] (List.replicate k [base, size]) (by simp; omega) (by intro ns hn; rw [(List.mem_replicate.1 hn).2]; exact ⟨hb, hz, trivial⟩))
    (by intro r hr; rw [(List.mem_replicate.1 hr).2]; exact fitsB_of (by simpa using hf))
  rw [h]; simp
theorem tReads_acheck (ha : ac = 1 ∨ ac = 2) (hs : sc = 1 ∨ sc = 2) (hk1 : 1 ≤ k) (hk4 : k ≤ 4) (hb : FitW base ac) (hz : FitW size sc) (hf : size ≤ 4611686018427387903 - base) : aCheckT (tReads ac sc base size k) = (0, 0) :=
  aCheck_all (tReads_check ha hs hk1 hk4) (by
    intro i hi
    have hi : i < 2 := hi
    have : i = 0 ∨ i = 1 := by omega
    rcases this with rfl | rfl
    · exact nodeErr_of (by rw [show ((0 : Nat) : Int) = 0 from rfl, (tReads_pair ha hs hk1 hk4).1]) rfl (.inl rfl)
    · exact nodeErr_of (by rw [show ((1 : Nat) : Int) = 1 from rfl, (tReads_pair ha hs hk1 hk4).2]) (by rw [tReads_regions ha hs hk1 hk4 hb hz hf]) (.inr (by rw [(tReads_value ha hs hk1 hk4).2])))
theorem tReads_aregions (ha : ac = 1 ∨ ac = 2) (hs : sc = 1 ∨ sc = 2) (hk1 : 1 ≤ k) (hk4 : k ≤ 4) (hb : FitW base ac) (hz : FitW size sc) (hf : size ≤ 4611686018427387903 - base) :
    aRegionsT (tReads ac sc base size k) 1 = (List.replicate k (base, size), 0) := by
  have hbg : beginT (tReads ac sc base size k) 1 = 0 := by
    unfold beginT; rw [tReads_check ha hs hk1 hk4, if_neg (by simp), if_neg (by show ¬ ((1 : Int) < 0 ∨ (2 : Int) ≤ 1); omega)]
  unfold aRegionsT
  rw [hbg, if_neg (by simp)]
  exact tReads_regions ha hs hk1 hk4 hb hz hf
theorem tReads_acells (ha : ac = 1 ∨ ac = 2) (hs : sc = 1 ∨ sc = 2) (hk1 : 1 ≤ k) (hk4 : k ≤ 4) : aCellsT (tReads ac sc base size k) 0 = (ac, sc, 0) := by
  have hbg : beginT (tReads ac sc base size k) 0 = 0 := by
    unfold beginT; rw [tReads_check ha hs hk1 hk4, if_neg (by simp), if_neg (by show ¬ ((0 : Int) < 0 ∨ (2 : Int) ≤ 0); omega)]
  unfold aCellsT
  rw [hbg, if_neg (by simp)]
  exact (tReads_pair ha hs hk1 hk4).1
theorem tReads_trans (ha : ac = 1 ∨ ac = 2) (hs : sc = 1 ∨ sc = 2) (hk1 : 1 ≤ k) (hk4 : k ≤ 4) (hb : FitW base ac) (hz : FitW size sc) (hf : size ≤ 4611686018427387903 - base) (i : Nat) (hi : i < k) :
    aTransT (tReads ac sc base size k) 1 i = ((base, size), 0) := by
  have ht := aTrans_of (i := i) (p := (base, size)) (tReads_acheck ha hs hk1 hk4 hb hz hf) (show 1 < 2 from by omega) (tReads_regions ha hs hk1 hk4 hb hz hf) (by simpa using hi) (by simp)
  rw [show ((1 : Nat) : Int) = 1 from rfl] at ht
  rw [ht]
  rfl
end

/-! ### AddressFlat -/
def sB : ByteArray := ⟨#[98]⟩
def nodeFlat (hid : Bool) (k : Nat) (b s : Int) (j : Nat) : NodeT := ⟨j, sB, (if (hid && j == 0) = true then [] else [⟨sRanges, ByteArray.empty⟩]) ++ (if j + 1 = k then [⟨sReg, valT [b, s]⟩] else [])⟩
def tFlat (hid : Bool) (k : Nat) (b s : Int) : List NodeT := ⟨-1, ByteArray.empty, []⟩ :: (List.range k).map (nodeFlat hid k b s)
theorem all_range {n : Nat} {p : Nat → Prop} [∀ i, Decidable (p i)] (h : (List.range n).all (fun i => decide (p i)) = true) (i : Nat) (hi : i < n) : p i := by
  have := List.all_eq_true.1 h i (List.mem_range.2 hi)
  simpa using this
theorem flat_of {T : List NodeT} {k : Nat} {b s : Int} (hch : checkT T = 0) (hlen : T.length = k + 1) (hk : 0 < k) (hp : (List.range (k + 1)).all (fun i => decide (pairT T i = (1, 1, 0))) = true)
    (hr : (List.range k).all (fun i => decide (regionsT T i = ([], 0))) = true) (hw : (List.range (k + 1)).all (fun i => decide ((windowsT T i).2.2 = 0)) = true)
    (hpar : parOf T k = ((k - 1 : Nat) : Int)) (hv : valueT T k nmReg = (valT [b, s], true)) (hb0 : 0 ≤ b) (hb1 : b ≤ 4294967295) (hs0 : 0 ≤ s) (hs1 : s ≤ 4294967295) :
    aTransT T k 0 = atRegion T k (b, s) := by
  have hrk : regionsT T k = ([(b, s)], 0) := reg_two (by omega) (by rw [hpar]; exact all_range hp (k - 1) (by omega)) hv hb0 hb1 hs0 hs1
  have hck : aCheckT T = (0, 0) := aCheck_all hch (by
    intro i hi
    have hi : i < k + 1 := by omega
    refine nodeErr_of (by rw [all_range hp i hi]) ?_ (.inr (all_range hw i hi))
    by_cases e : i = k
    · subst e; rw [hrk]
    · rw [all_range hr i (by omega)])
  exact aTrans_of (i := 0) hck (by omega) hrk (by simp) rfl
theorem atRegion_some {T : List NodeT} {k : Nat} {b s c : Int} (h : transF T s T.length (parOf T k) b = some c) : atRegion T k (b, s) = ((c, s), 0) := by
  unfold atRegion translateT; rw [h]; rfl
theorem atRegion_none {T : List NodeT} {k : Nat} {b s : Int} (h : transF T s T.length (parOf T k) b = none) : atRegion T k (b, s) = ((0, 0), 27) := by
  unfold atRegion translateT; rw [h]; rfl
section
variable {b s : Int}
theorem flat_shown (k : Nat) (hk1 : 1 ≤ k) (hk6 : k ≤ 6) (hb0 : 0 ≤ b) (hb1 : b ≤ 4294967295) (hs0 : 0 ≤ s) (hs1 : s ≤ 4294967295) : aTransT (tFlat false k b s) k 0 = ((b, s), 0) := by
  have : k = 1 ∨ k = 2 ∨ k = 3 ∨ k = 4 ∨ k = 5 ∨ k = 6 := by omega
  rcases this with rfl | rfl | rfl | rfl | rfl | rfl <;>
    exact (flat_of (by kernel_rfl) rfl (by omega) (by kernel_rfl) (by kernel_rfl) (by kernel_rfl) (by kernel_rfl) (by kernel_rfl) hb0 hb1 hs0 hs1).trans (atRegion_some (by kernel_rfl))
theorem flat_one (hb0 : 0 ≤ b) (hb1 : b ≤ 4294967295) (hs0 : 0 ≤ s) (hs1 : s ≤ 4294967295) : aTransT (tFlat true 1 b s) (1 : Nat) 0 = ((b, s), 0) :=
  (flat_of (by kernel_rfl) rfl (by omega) (by kernel_rfl) (by kernel_rfl) (by kernel_rfl) (by kernel_rfl) (by kernel_rfl) hb0 hb1 hs0 hs1).trans (atRegion_some (by kernel_rfl))
theorem flat_hidden (k : Nat) (hk1 : 2 ≤ k) (hk6 : k ≤ 6) (hb0 : 0 ≤ b) (hb1 : b ≤ 4294967295) (hs0 : 0 ≤ s) (hs1 : s ≤ 4294967295) : aTransT (tFlat true k b s) k 0 = ((0, 0), 27) := by
  have : k = 2 ∨ k = 3 ∨ k = 4 ∨ k = 5 ∨ k = 6 := by omega
  rcases this with rfl | rfl | rfl | rfl | rfl <;>
    exact (flat_of (by kernel_rfl) rfl (by omega) (by kernel_rfl) (by kernel_rfl) (by kernel_rfl) (by kernel_rfl) (by kernel_rfl) hb0 hb1 hs0 hs1).trans (atRegion_none (by kernel_rfl))
end
end Go.Proofs.Ytjfkjnakmmkkiaa
