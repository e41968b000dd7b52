/- The law TokenStrings: its walk. -/
import Derived.Test.YtdigoicdgeebhaaStrP
import Derived.Test.YtdigoicdgeebhaaLawO
namespace Go.Proofs.Ytdigoicdgeebhaa
open Go.RowKit

theorem mk_toList (s : ByteArray) : (⟨s.data.toList.toArray⟩ : ByteArray) = s := by apply ByteArray.ext; simp
theorem adds_any (a b : ByteArray) (h : a.size + b.size ≤ 9223372036854775807) : Adds a b ⟨(a.data.toList ++ b.data.toList).toArray⟩ := by
  have := adds_of a.data.toList b.data.toList (by simpa using h)
  rwa [mk_toList, mk_toList] at this
theorem size_mk (l : List UInt8) : (⟨l.toArray⟩ : ByteArray).size = l.length := by show l.toArray.size = _; simp
theorem adds_ex (a b : ByteArray) (h : a.size + b.size ≤ 9223372036854775807) : ∃ c, Adds a b c ∧ c.size = a.size + b.size ∧ c.data.toList = a.data.toList ++ b.data.toList :=
  ⟨_, adds_any a b h, by rw [size_mk]; simp, rfl⟩
theorem byte_hex (b : UInt8) (i : Nat) : ∃ h t : ByteArray, Based ((b.toNat : Int) + 256) 16 (i % 2 == 0) h ∧ 1 ≤ h.size ∧ h.size ≤ 100 ∧ h.extract 1 h.size = t ∧ t.size ≤ 100 ∧ t.data.toList = [digCh (i % 2 == 0) (b.toNat / 16), digCh (i % 2 == 0) (b.toNat % 16)] := by
  have hb := b.toNat_lt
  have h1 := based_of (b.toNat + 256) 16 (i % 2 == 0) (by omega) (by omega) (by omega)
  rw [basedT_byte _ _ hb] at h1
  refine ⟨_, _, h1, by rw [size_mk]; simp, by rw [size_mk]; simp, rfl, by rw [ByteArray.size_extract, size_mk]; simp, ?_⟩
  rw [drop_toList]; rfl

set_option maxHeartbeats 4000000 in
set_option maxRecDepth 100000 in
theorem strings_walk (raw : ByteArray) (plain : Bool) (w : World) (hs : raw.size ≤ maxLen) (h0 : Lay0 w) :
    Calls Try.prog 7 #[.string raw, .bool plain] w fun e w' => e = .returned (.bool true) ∧ Below w.heap.size w w' := by
  unfold maxLen at hs
  by_cases hlong : 200 < raw.size
  · go_enter Try.func7, Try.ntmps7
    go_wp2_with fail
    refine (law_awake _ h0).mono ?_
    rintro e w1 ⟨rfl, hb⟩
    go_wp2_with fail
    go_ret
    exact ⟨rfl, hb⟩
  · have hshort : raw.size ≤ 200 := by omega
    clear hlong
    go_enter Try.func7, Try.ntmps7
    go_wp2_with fail
    go_loopw [5, 6] (fun s5 i wr => ∃ (k nd : Nat) (t : ByteArray), k ≤ raw.size ∧ s5 = .string t ∧ i = .int .i64 k ∧ t.size ≤ 3 + 4 * k ∧ Hid (t.data.toList = [120, 32, 34] ++ encT plain 0 (raw.data.toList.take k)) ∧ wr = w.drewN nd) (fun _ i _ => raw.size - (intOf i).toNat)
    case atStart => exact ⟨0, 0, ⟨#[120, 32, 34]⟩, by omega, rfl, rfl, Nat.le_refl _, rfl, rfl⟩
    case round =>
      obtain ⟨k, nd, t, hk, rfl, rfl, hts, hT, rfl⟩ := hrel
      by_cases hlt : k < raw.size
      · have hsn := Lib.hid (show encT plain 0 (raw.data.toList.take (k + 1)) = encT plain 0 (raw.data.toList.take k) ++ encU plain k raw[k] from by
          rw [take_snoc raw k hlt, encT_snoc, List.length_take, len_of, Nat.min_eq_left (by omega), Nat.zero_add])
        by_cases hp : plainB plain raw[k] = true
        · have hU := Lib.hid (show encU plain k raw[k] = [raw[k]] from by unfold encU; rw [if_pos hp])
          have hx : (raw.extract k (k + 1)).size ≤ 1 := by simp; omega
          obtain ⟨t', hadd, hsz, htl⟩ := adds_ex t (raw.extract k (k + 1)) (by omega)
          have hd : (raw.extract k (k + 1)).data.toList = [raw[k]] := by
            rw [take_toList, take_snoc raw k hlt, List.drop_append, List.drop_eq_nil_of_le (by simp; omega)]; simp
            rw [show min k raw.size = k from by omega]; simp
          rw [hd] at htl
          have HTL := Lib.hid htl
          have hsz' : t'.size ≤ 3 + 4 * (k + 1) := by omega
          unfold Adds at hadd
          clear hd htl hsz hx
          unfold plainB at hp
          simp only [Bool.and_eq_true, decide_eq_true_eq] at hp
          obtain ⟨rfl, p1, p2, p3, p4⟩ := hp
          have p3' : ((raw[k].toNat : Int) != 34) = true := by simp; omega
          have p4' : ((raw[k].toNat : Int) != 92) = true := by simp; omega
          clear p3 p4
          go_wp2_with fail
          go_roundw
          case rel => exact ⟨k + 1, _, t', by omega, rfl, by go_num, hsz', by show _ = _; rw [HTL.out, hT.out, hsn.out, hU.out, List.append_assoc], rfl⟩
          case measure => simp [intOf]; omega
        · have hU := Lib.hid (show encU plain k raw[k] = [92, 120, digCh (k % 2 == 0) (raw[k].toNat / 16), digCh (k % 2 == 0) (raw[k].toNat % 16)] from by unfold encU; rw [if_neg hp])
          obtain ⟨h, tl, hb, q1, q2, q3, q4, q5⟩ := byte_hex raw[k] k
          obtain ⟨x, a1, hsx, hxl⟩ := adds_ex ⟨#[92, 120]⟩ tl (by rw [show (⟨#[92, 120]⟩ : ByteArray).size = 2 from rfl]; omega)
          obtain ⟨t', a2, hsz, htl⟩ := adds_ex t x (by rw [hsx, show (⟨#[92, 120]⟩ : ByteArray).size = 2 from rfl]; omega)
          rw [hxl, q5] at htl
          have HTL := Lib.hid htl
          have hsz' : t'.size ≤ 3 + 4 * (k + 1) := by
            have e1 : t'.size = t.size + 4 := by
              have := congrArg List.length htl
              simpa using this
            omega
          unfold Adds at a1 a2
          have hpc : plain = false ∨ plain = true ∧ raw[k].toNat < 32 ∨ plain = true ∧ 32 ≤ raw[k].toNat ∧ 127 ≤ raw[k].toNat ∨ plain = true ∧ 32 ≤ raw[k].toNat ∧ raw[k].toNat < 127 ∧ ((raw[k].toNat : Int) != 34) = false ∨
              plain = true ∧ 32 ≤ raw[k].toNat ∧ raw[k].toNat < 127 ∧ ((raw[k].toNat : Int) != 34) = true ∧ ((raw[k].toNat : Int) != 92) = false := by
            unfold plainB at hp
            cases plain with
            | false => exact .inl rfl
            | true =>
              simp only [Bool.true_and, decide_eq_true_eq] at hp
              by_cases c1 : raw[k].toNat < 32
              · exact .inr (.inl ⟨rfl, c1⟩)
              · by_cases c2 : 127 ≤ raw[k].toNat
                · exact .inr (.inr (.inl ⟨rfl, by omega, c2⟩))
                · by_cases c3 : raw[k].toNat = 34
                  · exact .inr (.inr (.inr (.inl ⟨rfl, by omega, by omega, by simp [c3]⟩)))
                  · exact .inr (.inr (.inr (.inr ⟨rfl, by omega, by omega, by simp; omega, by simp; omega⟩)))
          clear htl hsz hxl hsx hp q5
          have HB := Lib.hid hb; clear hb
          have hbl : raw[k].toNat < 256 := raw[k].toNat_lt
          have hkm : ((k : Int) % 2 == 0) = (k % 2 == 0) := by
            rw [Bool.eq_iff_iff]; simp; omega
          have HKM := Lib.hid hkm; clear hkm
          rcases hpc with c | ⟨c, c1⟩ | ⟨c, c1, c2⟩ | ⟨c, c1, c2, c3⟩ | ⟨c, c1, c2, c3, c4⟩
          all_goals
            subst c
            go_wp2_with fail
            rw [HKM.out]
            refine (HB.out _).mono ?_
            rintro e w1 ⟨rfl, kk, rfl⟩
            go_wp2_with fail
            go_roundw
            case rel => exact ⟨k + 1, _, t', by omega, rfl, by go_num, hsz', by show _ = _; rw [HTL.out, hT.out, hsn.out, hU.out, List.append_assoc]; rfl, rfl⟩
            case measure => simp [intOf]; omega
      · obtain rfl : k = raw.size := by omega
        obtain ⟨c, a1, hsc, hcl⟩ := adds_ex t ⟨#[34, 59]⟩ (by rw [show (⟨#[34, 59]⟩ : ByteArray).size = 2 from rfl]; omega)
        have hcl2 : c.data.toList = 120 :: 32 :: 34 :: (encT plain 0 raw.data.toList ++ [34, 59]) := by
          rw [hcl, hT.out, List.take_of_length_le (by simp)]; simp
        obtain ⟨t0, t2, t3, hrd⟩ := readT_string raw.data.toList plain (by simpa using hshort)
        rw [← hcl2] at hrd
        have hc2 : c.size ≤ 1000 := by rw [hsc, show (⟨#[34, 59]⟩ : ByteArray).size = 2 from rfl]; omega
        have hread := fun wx h => token_Read c 0 wx (by unfold maxLen; omega) h
        unfold ReadPost at hread
        rw [hrd] at hread
        have HR := Lib.hid hread
        unfold Adds at a1
        clear hread hrd hcl hcl2 hsc
        go_wp2_with fail
        refine (HR.out _ (h0.keeps ((Keeps.refl (fun _ => False) w).drewN nd) (fun e => e))).mono ?_
        rintro e w1 ⟨v, rfl, hown, hb1⟩
        obtain ⟨g, cap, rfl, hg1, hg2, hcap, hcells⟩ := tok_row hown (by simp)
        unfold posAgg
        have c0 := hcells 1 _ rfl 0 _ rfl
        have c1 := hcells 1 _ rfl 1 _ rfl
        rw [mk_toList] at c1
        simp only [List.length_cons, List.length_nil] at hcap
        clear hcells hown
        have hb2 : Below w.heap.size w w1 := ⟨hb1.os, hb1.tape, hb1.output, hb1.size, hb1.block⟩
        have hL1 : Lay0 w1 := h0.keeps (Keeps.of_fresh hb2 (fun _ => False)) (fun e => e)
        go_wp2_with fail
        refine (law_awake _ (hL1.keeps ((Keeps.refl (fun _ => False) w1).alloc _) (fun e => e))).mono ?_
        rintro e w2 ⟨rfl, hb3⟩
        go_wp2_with fail
        go_ret
        exact ⟨rfl, (hb2.alloc hb2.size _).trans (hb3.mono (by have := hb2.size; simp; omega))⟩
end Go.Proofs.Ytdigoicdgeebhaa
