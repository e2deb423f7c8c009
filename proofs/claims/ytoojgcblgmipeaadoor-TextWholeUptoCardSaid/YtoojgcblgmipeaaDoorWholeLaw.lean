/- TextWhole (for inputs of bulk at most 1048576): the law's walk. -/
import Derived.Test.YtoojgcblgmipeaaDoorTextRef
import Derived.Test.YtoojgcblgmipeaaDoorRunePlain
import Derived.WalkLawsBesides
namespace Go.Proofs.YtoojgcblgmipeaaDoor
set_option linter.unusedVariables false
open Go.RowKit Pl Go.Shelf

theorem addr_off (B j : Nat) : (⟨B, 0, none⟩ : Addr).add j = ⟨B, j, none⟩ := by
  unfold Addr.add
  split
  · rename_i h; rw [h]
  · rw [Nat.zero_add]
/-- '[]rune(s)': a fresh row of the characters. -/
theorem conv_runes (s : ByteArray) (hs : s.size ≤ 1048576) (w : World) : ∃ (w2 : World) (cap : Nat),
    (convert 9 28 (.string s)).run Tryd.prog w = .ok (.slice (some ⟨w.heap.size, 0, none⟩) (rnl s s.size 0).length cap) w2 ∧ Below w.heap.size w w2 ∧ w.heap.size < w2.heap.size ∧
    ∀ j, j < (rnl s s.size 0).length → w2.cell? ⟨w.heap.size, j, none⟩ = some (.int .i32 ((rnl s s.size 0).getD j 0)) := by
  have e : Conv.runesFrom s s.size 0 #[] = ((rnl s s.size 0).map (Value.int .i32)).toArray := by rw [runesFrom_rnl]; simp
  have hsz := size_runesFrom s s.size 0 #[]
  have hn : (Conv.runesFrom s s.size 0 #[]).size = (rnl s s.size 0).length := by rw [e]; simp
  have h := run_runes_of_string (P := Tryd.prog) w 9 28 21 s Tryd.underlying9 Tryd.underlying28 Tryd.underlying21 (by simp at hsz; omega)
  rw [hn] at h
  refine ⟨_, _, h, (Below.refl _ w).drew.alloc (Nat.le_refl _) _, ?_, ?_⟩
  · show w.heap.size < (w.heap.push _).size
    rw [Array.size_push]; exact Nat.lt_succ_self _
  · intro j hj
    refine (World.cell?_alloc_mark w.drew _ _ _ j).trans ?_
    rw [e]
    simp [List.getD, Array.getElem?_append, hj]

theorem textWhole_bad (s : ByteArray) (hs : s.size ≤ 1048576) (w : World) (HT : Hid (Tabs w)) (fa : Int) (Hf : Hid (flt s s.size 0 = (fa, true))) :
    Calls Tryd.prog 6 #[.string s] w fun e w' => e = .returned (.bool true) ∧ Below w.heap.size w w' := by
  have Hone := Lib.hid (show rns { data := #[97, 98] } ({ data := #[97, 98] } : ByteArray).size 0 = 2 by decide)
  go_enter Tryd.func6, Tryd.ntmps6
  go_wp2_with fail
  refine (fault_any s _ (by omega) HT.out).mono ?_
  rintro e w1 ⟨rfl, b1⟩
  rw [Hf.out]
  have HT1 : Hid (Tabs w1) := Lib.hid (HT.out.below b1)
  go_wp2_with fail
  refine (runes_any _ _ (by decide) HT1.out).mono ?_
  rintro e w2 ⟨rfl, b2⟩
  rw [Hone.out]
  go_wp2
  go_ret
  exact ⟨rfl, b1.trans (b2.mono b1.size)⟩

theorem textWhole_ok (s : ByteArray) (hs : s.size ≤ 1048576) (w : World) (HT : Hid (Tabs w)) (fa : Int) (hf : flt s s.size 0 = (fa, false)) :
    Calls Tryd.prog 6 #[.string s] w fun e w' => e = .returned (.bool true) ∧ Below w.heap.size w w' := by
  have Hone := Lib.hid (show rns { data := #[97, 98] } ({ data := #[97, 98] } : ByteArray).size 0 = 2 by decide)
  obtain ⟨r1, r2, r3⟩ := rnl_whole (s := s) (by rw [hf])
  have Hf := Lib.hid hf
  have hle := rns_le s s.size 0
  have hconv := fun w => conv_runes s hs w
  clear hf
  obtain ⟨zs, hzs⟩ : ∃ zs, rnl s s.size 0 = zs := ⟨_, rfl⟩
  rw [hzs] at r1 r2 r3 hconv
  clear hzs
  rw [← r1] at hle
  have R1 := Lib.hid r1
  have R2 := Lib.hid r2
  have R3 := Lib.hid r3
  have Hconv := Lib.hid hconv
  clear r1 r2 r3 hconv
  go_enter Tryd.func6, Tryd.ntmps6
  go_wp2_with fail
  refine (fault_any s _ (by omega) HT.out).mono ?_
  rintro e w1 ⟨rfl, b1⟩
  rw [Hf.out]
  have HT1 : Hid (Tabs w1) := Lib.hid (HT.out.below b1)
  obtain ⟨w2, cap, hc, b2, hB, hcell⟩ := Hconv.out w1
  have Hcell := Lib.hid hcell
  clear hcell
  have HT2 : Hid (Tabs w2) := Lib.hid (HT1.out.below b2)
  have b12 := b1.trans (b2.mono b1.size)
  obtain ⟨n, hn⟩ : ∃ n, zs.length = n := ⟨_, rfl⟩
  rw [hn] at hc hle
  have Hn := Lib.hid hn
  clear hn
  obtain ⟨B, hBe⟩ : ∃ B, w1.heap.size = B := ⟨_, rfl⟩
  have HB := Lib.hid hBe
  rw [hBe] at hc hB b2
  clear hBe
  go_wp2
  clear hc
  go_loop [20] (fun i => ∃ k : Nat, i = .int .i64 k ∧ k ≤ n) (fun i => n - (intOf i).toNat)
  case atStart => exact ⟨0, rfl, by omega⟩
  case round =>
    obtain ⟨k, rfl, hk⟩ := hrel
    by_cases hlt : k < n
    · have hc := Hcell.out k (by rw [Hn.out]; exact hlt)
      rw [HB.out] at hc
      have hz : zs.getD k 0 ≠ 0 := by
        refine R2.out _ ?_
        rw [List.getD_eq_getElem?_getD, List.getElem?_eq_getElem (by rw [Hn.out]; exact hlt)]
        exact List.getElem_mem _
      obtain ⟨z, hze⟩ : ∃ z, zs.getD k 0 = z := ⟨_, rfl⟩
      rw [hze] at hc hz
      clear hze
      have hzf : (z == 0) = false := by rw [beq_eq_false_iff_ne]; exact hz
      go_wp2
      go_round
      case rel => exact ⟨k + 1, by go_num, by omega⟩
      case measure => simp [intOf]; omega
    · obtain rfl : k = n := by omega
      go_wp2_with fail
      refine (runes_any _ _ (by decide) HT2.out).mono ?_
      rintro e w3 ⟨rfl, b3⟩
      rw [Hone.out]
      have HT3 : Hid (Tabs w3) := Lib.hid (HT2.out.below b3)
      have hback : (convert 28 9 (.slice (some ⟨B, 0, none⟩) k cap)).run Tryd.prog w3 = .ok (.string s) w3 := by
        have h := run_convert_runes (P := Tryd.prog) w3 28 9 21 ⟨B, 0, none⟩ k cap zs (by rw [Hn.out]; exact Nat.le_refl _) Tryd.underlying28 Tryd.underlying21 Tryd.underlying9 (fun j hj => by
          have h1 := Hcell.out j hj
          rw [HB.out] at h1
          rw [← h1]
          rw [show (⟨B, 0, none⟩ : Addr).add j = ⟨B, j, none⟩ from addr_off B j]
          exact b3.cell hB)
        rw [h, List.take_of_length_le (by rw [Hn.out]; exact Nat.le_refl _), R3.out]
      go_wp2_with fail
      refine (runes_any s _ (by omega) HT3.out).mono ?_
      rintro e w4 ⟨rfl, b4⟩
      have hr : rns s s.size 0 = k := by rw [← R1.out, Hn.out]
      rw [hr]
      go_wp2
      go_ret
      have c3 := b12.trans (b3.mono b12.size)
      exact ⟨rfl, c3.trans (b4.mono c3.size)⟩

theorem textWhole_walk (s : ByteArray) (hs : s.size ≤ 1048576) (w : World) (hT : Tabs w) :
    Calls Tryd.prog 6 #[.string s] w fun e w' => e = .returned (.bool true) ∧ Below w.heap.size w w' := by
  obtain ⟨fa, fb, hf⟩ : ∃ fa fb, flt s s.size 0 = (fa, fb) := ⟨_, _, rfl⟩
  cases fb
  · exact textWhole_ok s hs w (Lib.hid hT) fa hf
  · exact textWhole_bad s hs w (Lib.hid hT) fa (Lib.hid hf)
end Go.Proofs.YtoojgcblgmipeaaDoor
