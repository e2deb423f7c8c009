/- TopicChecks, TopicMatches: the laws' walks. -/
import Derived.Test.YtjkpmccnieodjaaDoorMatch
import Derived.Test.YtjkpmccnieodjaaDoorRefMatch
namespace Go.Proofs.YtjkpmccnieodjaaDoor
set_option linter.unusedVariables false
open Go.RowKit Pl Go.Shelf

theorem nameC_bd (s : ByteArray) : 0 ≤ nameC s ∧ nameC s ≤ 255 := by unfold nameC; split <;> decide
theorem filtC_bd (s : ByteArray) : 0 ≤ filtC s ∧ filtC s ≤ 255 := by unfold filtC; split <;> decide

theorem wakes_any (w : World) (hT : Tabs w) :
    Calls Tryd.prog 18 #[] w fun e w' => e = .returned (.bool true) ∧ Below w.heap.size w w' := by
  have HT := Lib.hid hT
  have H1 := Lib.hid (show mtB ⟨#[97, 47, 43, 47, 99]⟩ ⟨#[97, 47, 47, 99]⟩ = true by decide +kernel)
  have H2 := Lib.hid (show mtB ⟨#[97, 47, 35]⟩ ⟨#[97]⟩ = true by decide +kernel)
  have H3 := Lib.hid (show mtB ⟨#[35]⟩ ⟨#[36, 83, 89, 83, 47, 120]⟩ = false by decide +kernel)
  have H4 := Lib.hid (show mtB ⟨#[36, 83, 89, 83, 47, 35]⟩ ⟨#[36, 83, 89, 83, 47, 120]⟩ = true by decide +kernel)
  clear hT
  go_enter Tryd.func18, Tryd.ntmps18
  go_wp2_with fail
  refine (match_any _ _ _ (by decide) (by decide) HT.out).mono ?_
  rintro e w1 ⟨rfl, b1⟩
  rw [H1.out]
  have HT1 : Hid (Tabs w1) := Lib.hid (HT.out.below b1)
  go_wp2_with fail
  refine (match_any _ _ _ (by decide) (by decide) HT1.out).mono ?_
  rintro e w2 ⟨rfl, b2⟩
  rw [H2.out]
  have HT2 : Hid (Tabs w2) := Lib.hid (HT1.out.below b2)
  go_wp2_with fail
  refine (match_any _ _ _ (by decide) (by decide) HT2.out).mono ?_
  rintro e w3 ⟨rfl, b3⟩
  rw [H3.out]
  have HT3 : Hid (Tabs w3) := Lib.hid (HT2.out.below b3)
  go_wp2_with fail
  refine (match_any _ _ _ (by decide) (by decide) HT3.out).mono ?_
  rintro e w4 ⟨rfl, b4⟩
  rw [H4.out]
  have c2 := b1.trans (b2.mono b1.size)
  have c3 := c2.trans (b3.mono c2.size)
  have c4 := c3.trans (b4.mono c3.size)
  go_wp2
  go_ret
  exact ⟨rfl, c4⟩

theorem topicChecks_walk (s : ByteArray) (hs : s.size ≤ 140737488351232) (w : World) (hT : Tabs w) :
    Calls Tryd.prog 3 #[.string s] w fun e w' => e = .returned (.bool true) ∧ Below w.heap.size w w' := by
  have HT := Lib.hid hT
  have H1 := Lib.hid (show nameC ⟨#[97, 47, 98]⟩ = 0 by decide +kernel)
  have H2 := Lib.hid (show nameC ⟨#[43]⟩ = 144 by decide +kernel)
  have hn := nameC_bd s
  have hf := filtC_bd s
  obtain ⟨a, ha⟩ : ∃ a, nameC s = a := ⟨_, rfl⟩
  obtain ⟨b, hb⟩ : ∃ b, filtC s = b := ⟨_, rfl⟩
  rw [ha] at hn
  rw [hb] at hf
  have Ha := Lib.hid ha
  have Hb := Lib.hid hb
  have n0 := hn.1
  have n1 := hn.2
  have f0 := hf.1
  have f1 := hf.2
  clear hT ha hb hn hf
  go_enter Tryd.func3, Tryd.ntmps3
  go_wp2_with fail
  refine (checkname_any _ _ (by decide) HT.out).mono ?_
  rintro e w1 ⟨rfl, b1⟩
  rw [H1.out]
  have HT1 : Hid (Tabs w1) := Lib.hid (HT.out.below b1)
  go_wp2_with fail
  refine (checkname_any _ _ (by decide) HT1.out).mono ?_
  rintro e w2 ⟨rfl, b2⟩
  rw [H2.out]
  have HT2 : Hid (Tabs w2) := Lib.hid (HT1.out.below b2)
  have c2 := b1.trans (b2.mono b1.size)
  go_wp2_with fail
  refine (checkname_any s _ (by omega) HT2.out).mono ?_
  rintro e w3 ⟨rfl, b3⟩
  rw [Ha.out]
  have HT3 : Hid (Tabs w3) := Lib.hid (HT2.out.below b3)
  have c3 := c2.trans (b3.mono c2.size)
  go_wp2_with fail
  refine (refcheckname_any s _ (by omega)).mono ?_
  rintro e w4 ⟨rfl, b4⟩
  rw [Ha.out]
  have HT4 : Hid (Tabs w4) := Lib.hid (HT3.out.below b4)
  have c4 := c3.trans (b4.mono c3.size)
  go_wp2_with fail
  refine (checkfilter_any s _ (by omega) HT4.out).mono ?_
  rintro e w5 ⟨rfl, b5⟩
  rw [Hb.out]
  have c5 := c4.trans (b5.mono c4.size)
  go_wp2_with fail
  refine (refcheckfilter_any s _ (by omega)).mono ?_
  rintro e w6 ⟨rfl, b6⟩
  rw [Hb.out]
  have c6 := c5.trans (b6.mono c5.size)
  go_wp2
  go_ret
  exact ⟨rfl, c6⟩

theorem topicMatches_walk (F : ByteArray) (hF : F.size ≤ 140737488351232) (N : ByteArray) (hN : N.size ≤ 140737488351232) (w : World) (hT : Tabs w) :
    Calls Tryd.prog 5 #[.string F, .string N] w fun e w' => e = .returned (.bool true) ∧ Below w.heap.size w w' := by
  have HT := Lib.hid hT
  obtain ⟨a, ha⟩ : ∃ a, mtB F N = a := ⟨_, rfl⟩
  have Ha := Lib.hid ha
  clear hT ha
  go_enter Tryd.func5, Tryd.ntmps5
  go_wp2_with fail
  refine (wakes_any _ HT.out).mono ?_
  rintro e w1 ⟨rfl, b1⟩
  have HT1 : Hid (Tabs w1) := Lib.hid (HT.out.below b1)
  go_wp2_with fail
  refine (match_any F N _ (by omega) (by omega) HT1.out).mono ?_
  rintro e w2 ⟨rfl, b2⟩
  rw [Ha.out]
  have c2 := b1.trans (b2.mono b1.size)
  go_wp2_with fail
  refine (refmatch_any F N _ (by omega) (by omega)).mono ?_
  rintro e w3 ⟨rfl, b3⟩
  rw [Ha.out]
  have c3 := c2.trans (b3.mono c2.size)
  go_wp2
  go_ret
  exact ⟨rfl, c3⟩
end Go.Proofs.YtjkpmccnieodjaaDoor
