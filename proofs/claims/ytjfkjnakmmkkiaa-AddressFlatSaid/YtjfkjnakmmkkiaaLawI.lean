/- The tree of awake of bringuplaw11, in plain Lean. -/
import Derived.Test.YtjfkjnakmmkkiaaGroB
import Derived.Test.YtjfkjnakmmkkiaaAdrK
namespace Go.Proofs.Ytjfkjnakmmkkiaa
open Go.RowKit

def sBus : ByteArray := ⟨#[98, 117, 115]⟩
def sDev : ByteArray := ⟨#[100, 101, 118]⟩
def sRanges : ByteArray := ⟨#[114, 97, 110, 103, 101, 115]⟩
def sReg : ByteArray := ⟨#[114, 101, 103]⟩
def tAwake : List NodeT := [⟨-1, ByteArray.empty, []⟩, ⟨0, sBus, [⟨sRanges, ⟨(growT [0, 4096, 256]).toArray⟩⟩]⟩, ⟨1, sDev, [⟨sReg, ⟨(growT [16, 4]).toArray⟩⟩]⟩]
theorem tAwake_trans : aTransT tAwake 2 0 = ((4112, 4), 0) := by kernel_rfl
theorem tAwake_regions : aRegionsT tAwake 2 = ([(16, 4)], 0) := by kernel_rfl
theorem props_one {R : Nat → Prop} {w : World} {p : Nat} {x y : ByteArray} {t : TypeId} (h : Holds w p #[.string x, .string y] t) (hR : R p) (hx : x.size ≤ 1000) (hy : y.size ≤ 1000) : PropsIn R w (.slice (some ⟨p, 0, none⟩) 1 1) [⟨x, y⟩] := by
  refine ⟨some ⟨p, 0, none⟩, 1, rfl, Nat.le_refl _, by omega, fun _ => ⟨p, 0, rfl, hR, fun k hk => ?_⟩⟩
  match k, hk with
  | 0, _ => exact ⟨h.cell 0, h.cell 1, by show x.size ≤ _; omega, by show y.size ≤ _; omega⟩
theorem tAwake_in {w : World} {B p1 p2 : Nat} {t1 t2 : TypeId} (h1 : Holds w p1 #[.string sRanges, .string ⟨(growT [0, 4096, 256]).toArray⟩] t1) (h2 : Holds w p2 #[.string sReg, .string ⟨(growT [16, 4]).toArray⟩] t1)
    (hn : Holds w B #[.int .i64 (-1), .string ByteArray.empty, .slice none 0 0, .int .i64 0, .string sBus, .slice (some ⟨p1, 0, none⟩) 1 1, .int .i64 1, .string sDev, .slice (some ⟨p2, 0, none⟩) 1 1] t2) :
    NodesIn (fun g => g < w.heap.size) w (.slice (some ⟨B, 0, none⟩) 3 3) tAwake := by
  refine ⟨some ⟨B, 0, none⟩, 3, rfl, Nat.le_refl _, by omega, fun _ => ⟨B, 0, rfl, hn.lt, fun k hk => ?_⟩⟩
  match k, hk with
  | 0, _ => exact ⟨_, hn.cell 0, hn.cell 1, hn.cell 2, ⟨none, 0, rfl, Nat.le_refl _, by omega, fun h => absurd h (Nat.lt_irrefl 0)⟩, by show (0 : Nat) ≤ _; omega, by show _ ≤ (-1 : Int); omega, by show (-1 : Int) ≤ _; omega⟩
  | 1, _ => exact ⟨_, hn.cell 3, hn.cell 4, hn.cell 5, props_one h1 h1.lt (by decide) (by decide), by show (3 : Nat) ≤ _; omega, by show _ ≤ (0 : Int); omega, by show (0 : Int) ≤ _; omega⟩
  | 2, _ => exact ⟨_, hn.cell 6, hn.cell 7, hn.cell 8, props_one h2 h2.lt (by decide) (by decide), by show (3 : Nat) ≤ _; omega, by show _ ≤ (1 : Int); omega, by show (1 : Int) ≤ _; omega⟩
end Go.Proofs.Ytjfkjnakmmkkiaa
