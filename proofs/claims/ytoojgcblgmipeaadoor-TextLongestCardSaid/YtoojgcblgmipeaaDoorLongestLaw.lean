/- TextLongest: the law's walk. -/
import Derived.Test.YtoojgcblgmipeaaDoorTextRef
import Derived.Test.YtoojgcblgmipeaaDoorTextMore
namespace Go.Proofs.YtoojgcblgmipeaaDoor
set_option linter.unusedVariables false
open Go.RowKit Pl Go.Shelf

set_option maxRecDepth 100000 in
theorem longest_pos (s c : ByteArray) (most : Int) (hs : s.size ≤ 140737488351232) (hb : -9223372036854775808 ≤ most ∧ most ≤ 9223372036854775807) (hpos : 0 < most) (hcm : (c.size : Int) ≤ most)
    (hm1 : -9223372036854775808 ≤ most - c.size) (hm2 : most - c.size ≤ 9223372036854775807) (hple : c.size ≤ s.size)
    (Hc : Hid (cutS s most = c)) (Hf : Hid (flt c c.size 0 = (0, false)))
    (Hl : Hid (∀ k : Nat, 1 ≤ k → c.size + k ≤ s.size → (flt (s.extract 0 (c.size + k)) (c.size + k) 0).2 = false → most < (c.size : Int) + k))
    (hq : ((s.extract 0 c.size).toList == c.toList) = true) (w : World) (HT : Hid (Tabs w)) :
    Calls Tryd.prog 4 #[.string s, .int .i64 most] w fun e w' => e = .returned (.bool true) ∧ Below w.heap.size w w' := by
  have Hone := Lib.hid (show cutS { data := #[97, 98] } 1 = { data := #[97] } by decide)
  go_enter Tryd.func4, Tryd.ntmps4
  go_wp2_with fail
  refine (cut_any s most _ hs hb.1 hb.2 HT.out).mono ?_
  rintro e w1 ⟨rfl, b1⟩
  rw [Hc.out]
  have HT1 : Hid (Tabs w1) := Lib.hid (HT.out.below b1)
  go_wp2_with fail
  refine (fault_any c _ (by omega) HT1.out).mono ?_
  rintro e w2 ⟨rfl, b2⟩
  rw [Hf.out]
  have HT2 : Hid (Tabs w2) := Lib.hid (HT1.out.below b2)
  go_wp2
  have d1 : decide (s.size < c.size) = false := decide_eq_false (by omega)
  have d2 : decide (max 0 most < (c.size : Int)) = false := decide_eq_false (by omega)
  try simp only [d1, d2, Bool.false_or]
  clear d1 d2
  go_loopw [8] (fun i wr => ∃ k : Nat, i = .int .i64 k ∧ 1 ≤ k ∧ k ≤ 5 ∧ Below w.heap.size w wr) (fun i _ => 5 - (intOf i).toNat)
  case atStart => exact ⟨1, rfl, by omega, by omega, b1.trans (b2.mono b1.size)⟩
  case round =>
    obtain ⟨k, rfl, hk1, hk5, hbel⟩ := hrel
    have HTr : Hid (Tabs wr) := Lib.hid (HT.out.below hbel)
    by_cases hk4 : k ≤ 4
    · by_cases hkl : c.size + k ≤ s.size
      · have hsz := size_cut s hkl
        obtain ⟨fa, fb, hfl⟩ : ∃ fa fb, flt (s.extract 0 (c.size + k)) (s.extract 0 (c.size + k)).size 0 = (fa, fb) := ⟨_, _, rfl⟩
        have hcut := Hl.out k hk1 hkl
        have hfl2 := hfl
        rw [hsz] at hfl2
        rw [hfl2] at hcut
        clear hfl2
        have Hfl := Lib.hid hfl
        clear hfl hsz
        have hkl' : (k : Int) ≤ s.size - c.size := by omega
        cases fb
        · have hgt : most - c.size < k := by have := hcut rfl; omega
          clear hcut
          go_wp2_with fail
          refine (fault_any (s.extract 0 (c.size + k)) _ (by rw [size_cut s hkl]; omega) HTr.out).mono ?_
          rintro e w3 ⟨rfl, b3⟩
          rw [Hfl.out]
          go_wp2
          go_roundw
          case rel => exact ⟨k + 1, by go_num, by omega, by omega, hbel.trans (b3.mono hbel.size)⟩
          case measure => simp [intOf]; omega
        · clear hcut
          go_wp2_with fail
          refine (fault_any (s.extract 0 (c.size + k)) _ (by rw [size_cut s hkl]; omega) HTr.out).mono ?_
          rintro e w3 ⟨rfl, b3⟩
          rw [Hfl.out]
          go_wp2
          go_roundw
          case rel => exact ⟨k + 1, by go_num, by omega, by omega, hbel.trans (b3.mono hbel.size)⟩
          case measure => simp [intOf]; omega
      · have hkl' : (s.size : Int) - c.size < k := by omega
        go_wp2_with fail
        refine (cut_any _ 1 _ (by decide) (by omega) (by omega) HTr.out).mono ?_
        rintro e w3 ⟨rfl, b3⟩
        rw [Hone.out]
        go_wp2
        go_ret
        exact ⟨rfl, hbel.trans (b3.mono hbel.size)⟩
    · go_wp2_with fail
      refine (cut_any _ 1 _ (by decide) (by omega) (by omega) HTr.out).mono ?_
      rintro e w3 ⟨rfl, b3⟩
      rw [Hone.out]
      go_wp2
      go_ret
      exact ⟨rfl, hbel.trans (b3.mono hbel.size)⟩

set_option maxRecDepth 100000 in
theorem longest_neg (s c : ByteArray) (most : Int) (hs : s.size ≤ 140737488351232) (hb : -9223372036854775808 ≤ most ∧ most ≤ 9223372036854775807) (hneg : most ≤ 0) (hcm : (c.size : Int) ≤ 0)
    (hm1 : -9223372036854775808 ≤ most - c.size) (hm2 : most - c.size ≤ 9223372036854775807) (hple : c.size ≤ s.size)
    (Hc : Hid (cutS s most = c)) (Hf : Hid (flt c c.size 0 = (0, false)))
    (Hl : Hid (∀ k : Nat, 1 ≤ k → c.size + k ≤ s.size → (flt (s.extract 0 (c.size + k)) (c.size + k) 0).2 = false → most < (c.size : Int) + k))
    (hq : ((s.extract 0 c.size).toList == c.toList) = true) (w : World) (HT : Hid (Tabs w)) :
    Calls Tryd.prog 4 #[.string s, .int .i64 most] w fun e w' => e = .returned (.bool true) ∧ Below w.heap.size w w' := by
  have Hone := Lib.hid (show cutS { data := #[97, 98] } 1 = { data := #[97] } by decide)
  go_enter Tryd.func4, Tryd.ntmps4
  go_wp2_with fail
  refine (cut_any s most _ hs hb.1 hb.2 HT.out).mono ?_
  rintro e w1 ⟨rfl, b1⟩
  rw [Hc.out]
  have HT1 : Hid (Tabs w1) := Lib.hid (HT.out.below b1)
  go_wp2_with fail
  refine (fault_any c _ (by omega) HT1.out).mono ?_
  rintro e w2 ⟨rfl, b2⟩
  rw [Hf.out]
  have HT2 : Hid (Tabs w2) := Lib.hid (HT1.out.below b2)
  go_wp2
  have d1 : decide (s.size < c.size) = false := decide_eq_false (by omega)
  have d2 : decide (max 0 most < (c.size : Int)) = false := decide_eq_false (by omega)
  try simp only [d1, d2, Bool.false_or]
  clear d1 d2
  go_loopw [8] (fun i wr => ∃ k : Nat, i = .int .i64 k ∧ 1 ≤ k ∧ k ≤ 5 ∧ Below w.heap.size w wr) (fun i _ => 5 - (intOf i).toNat)
  case atStart => exact ⟨1, rfl, by omega, by omega, b1.trans (b2.mono b1.size)⟩
  case round =>
    obtain ⟨k, rfl, hk1, hk5, hbel⟩ := hrel
    have HTr : Hid (Tabs wr) := Lib.hid (HT.out.below hbel)
    by_cases hk4 : k ≤ 4
    · by_cases hkl : c.size + k ≤ s.size
      · have hsz := size_cut s hkl
        obtain ⟨fa, fb, hfl⟩ : ∃ fa fb, flt (s.extract 0 (c.size + k)) (s.extract 0 (c.size + k)).size 0 = (fa, fb) := ⟨_, _, rfl⟩
        have hcut := Hl.out k hk1 hkl
        have hfl2 := hfl
        rw [hsz] at hfl2
        rw [hfl2] at hcut
        clear hfl2
        have Hfl := Lib.hid hfl
        clear hfl hsz
        have hkl' : (k : Int) ≤ s.size - c.size := by omega
        cases fb
        · have hgt : most - c.size < k := by have := hcut rfl; omega
          clear hcut
          go_wp2_with fail
          refine (fault_any (s.extract 0 (c.size + k)) _ (by rw [size_cut s hkl]; omega) HTr.out).mono ?_
          rintro e w3 ⟨rfl, b3⟩
          rw [Hfl.out]
          go_wp2
          go_roundw
          case rel => exact ⟨k + 1, by go_num, by omega, by omega, hbel.trans (b3.mono hbel.size)⟩
          case measure => simp [intOf]; omega
        · clear hcut
          go_wp2_with fail
          refine (fault_any (s.extract 0 (c.size + k)) _ (by rw [size_cut s hkl]; omega) HTr.out).mono ?_
          rintro e w3 ⟨rfl, b3⟩
          rw [Hfl.out]
          go_wp2
          go_roundw
          case rel => exact ⟨k + 1, by go_num, by omega, by omega, hbel.trans (b3.mono hbel.size)⟩
          case measure => simp [intOf]; omega
      · have hkl' : (s.size : Int) - c.size < k := by omega
        go_wp2_with fail
        refine (cut_any _ 1 _ (by decide) (by omega) (by omega) HTr.out).mono ?_
        rintro e w3 ⟨rfl, b3⟩
        rw [Hone.out]
        go_wp2
        go_ret
        exact ⟨rfl, hbel.trans (b3.mono hbel.size)⟩
    · go_wp2_with fail
      refine (cut_any _ 1 _ (by decide) (by omega) (by omega) HTr.out).mono ?_
      rintro e w3 ⟨rfl, b3⟩
      rw [Hone.out]
      go_wp2
      go_ret
      exact ⟨rfl, hbel.trans (b3.mono hbel.size)⟩

theorem textLongest_walk (s : ByteArray) (hs : s.size ≤ 140737488351232) (n : Int) (hn : (Lit.int .i64 n).wf = true) (w : World) (hT : Tabs w) :
    Calls Tryd.prog 4 #[.string s, .int .i64 n] w fun e w' => e = .returned (.bool true) ∧ Below w.heap.size w w' := by
  have hb := i64_bd hn
  have hple := cutP_le s n s.size 0 (Nat.zero_le _)
  have hpm := cutP_most s n s.size 0
  have hlong := fun k h1 h2 => cut_longest s n k h1 h2
  have hflt := cut_text s n
  have hcz : (cutS s n).size = cutP s n s.size 0 := by unfold cutS; rw [size_cut s hple]
  have hex : s.extract 0 (cutS s n).size = cutS s n := by rw [hcz]; rfl
  rw [← hcz] at hple hpm hlong
  have hq : ((s.extract 0 (cutS s n).size).toList == (cutS s n).toList) = true := by rw [hex]; exact beq_self_eq_true _
  by_cases hpos : 0 < n
  · exact longest_pos s (cutS s n) n hs hb hpos (by omega) (by omega) (by omega) hple (Lib.hid rfl) (Lib.hid hflt) (Lib.hid hlong) hq w (Lib.hid hT)
  · exact longest_neg s (cutS s n) n hs hb (by omega) (by omega) (by omega) (by omega) hple (Lib.hid rfl) (Lib.hid hflt) (Lib.hid hlong) hq w (Lib.hid hT)
end Go.Proofs.YtoojgcblgmipeaaDoor
