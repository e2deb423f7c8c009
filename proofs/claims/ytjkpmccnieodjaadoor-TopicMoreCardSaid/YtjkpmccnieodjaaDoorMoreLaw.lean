/- TopicMore: the law's walk. -/
import Derived.Test.YtjkpmccnieodjaaDoorTopicWakes
import Derived.Test.YtjkpmccnieodjaaDoorMorePlain
namespace Go.Proofs.YtjkpmccnieodjaaDoor
set_option linter.unusedVariables false
open Go.RowKit Pl Go.Shelf

theorem topicMore_walk (F : ByteArray) (hF : F.size ≤ 140737488351232) (N : ByteArray) (hN : N.size ≤ 140737488351232) (M : ByteArray) (hM : M.size ≤ 140737488351232) (w : World) (hT : Tabs w) :
    Calls Tryd.prog 6 #[.string F, .string N, .string M] w fun e w' => e = .returned (.bool true) ∧ Below w.heap.size w w' := by
  have HT := Lib.hid hT
  clear hT
  cases hm : mtB F N
  · have Hm := Lib.hid hm
    clear hm
    go_enter Tryd.func6, Tryd.ntmps6
    go_wp2_with fail
    refine (wakes_any _ HT.out).mono ?_
    rintro e w1 ⟨rfl, b1⟩
    have HT1 : Hid (Tabs w1) := Lib.hid (HT.out.below b1)
    go_wp2_with fail
    refine (match_any F N _ (by omega) (by omega) HT1.out).mono ?_
    rintro e w2 ⟨rfl, b2⟩
    rw [Hm.out]
    have HT2 : Hid (Tabs w2) := Lib.hid (HT1.out.below b2)
    have c2 := b1.trans (b2.mono b1.size)
    go_wp2_with fail
    refine (wakes_any _ HT2.out).mono ?_
    rintro e w3 ⟨rfl, b3⟩
    have c3 := c2.trans (b3.mono c2.size)
    go_wp2
    go_ret
    exact ⟨rfl, c3⟩
  · obtain ⟨h1, h2, h3, h4⟩ := mt_open hm
    have sF := szd_size (filt_szd2 h1).1
    have sN := szd_size (name_szd h2)
    have hF1 := sF.2.1
    have hN1 := sN.2.1
    have pF := lev_pos F.data.toList
    have nF := sF.2.2
    have Hmt := Lib.hid hm
    have hsz : (lgr N M).size ≤ 281474976710656 := by unfold lgr; rw [ByteArray.size_append, ByteArray.size_append]; show N.size + 1 + M.size ≤ _; omega
    have hsz2 : (opn F).size ≤ 281474976710656 := by unfold opn; rw [ByteArray.size_append]; show F.size + 2 ≤ _; omega
    obtain ⟨al, hal⟩ : ∃ al, allB (lev F.data.toList) = al := ⟨_, rfl⟩
    have Hal := Lib.hid hal
    obtain ⟨A, hA⟩ : ∃ A, lev F.data.toList = A := ⟨_, rfl⟩
    have HA := Lib.hid hA
    rw [hA] at pF nF hal
    obtain ⟨m, hmm⟩ : ∃ m, A.length = m + 1 := ⟨A.length - 1, by omega⟩
    obtain ⟨z, hz⟩ : ∃ z, A[m]? = some z := ⟨_, List.getElem?_eq_getElem (by omega)⟩
    have hall := last_at hmm hz
    rw [hmm] at nF
    have Hm := Lib.hid hmm
    have Hz := Lib.hid hz
    obtain ⟨y, hy⟩ : ∃ y : ByteArray, (⟨z.toArray⟩ : ByteArray) = y := ⟨_, rfl⟩
    have hyz : z = y.data.toList := by rw [← hy]
    have hall2 : (y.toList == [35]) = al := by rw [← hal, hall, ByteArray.toList_eq, ← hyz]
    have Hy := Lib.hid (show strV z = .string y by rw [← hy]; rfl)
    obtain ⟨cl, hcl⟩ : ∃ b, nameB (lgr N M) = b := ⟨_, rfl⟩
    have Hcl : Hid (nameC (lgr N M) = if cl then 0 else 144) := Lib.hid (by unfold nameC; rw [hcl])
    obtain ⟨co, hco⟩ : ∃ b, filtB (opn F) = b := ⟨_, rfl⟩
    have Hco : Hid (filtC (opn F) = if co then 0 else 143) := Lib.hid (by unfold filtC; rw [hco])
    have HcB := Lib.hid hcl
    have HcO := Lib.hid hco
    clear h1 h2 h3 h4 sF sN pF hA hmm hz hall hy hyz hm hal hcl hco
    cases al
    · cases co
      · go_enter Tryd.func6, Tryd.ntmps6
        go_wp2_with fail
        refine (wakes_any _ HT.out).mono ?_
        rintro e w1 ⟨rfl, b1⟩
        have HT1 : Hid (Tabs w1) := Lib.hid (HT.out.below b1)
        go_wp2_with fail
        refine (match_any F N _ (by omega) (by omega) HT1.out).mono ?_
        rintro e w2 ⟨rfl, b2⟩
        rw [Hmt.out]
        have HT2 : Hid (Tabs w2) := Lib.hid (HT1.out.below b2)
        have c2 := b1.trans (b2.mono b1.size)
        go_wp2_with fail
        refine (levels_any F _ (by omega)).mono ?_
        rintro e w3 ⟨rfl, hw3⟩
        rw [HA.out] at hw3
        rw [HA.out, Hm.out]
        obtain ⟨g1, hg1⟩ : ∃ g, w2.heap.size = g := ⟨_, rfl⟩
        have hlast : w3.cell? ⟨g1, m, none⟩ = some (.string y) := by
          subst hw3
          rw [← hg1, World.cell?_alloc_mark, ← Hy.out]
          simp [Hz.out]
        have c3 : Below w.heap.size w w3 := by subst hw3; exact c2.alloc c2.size _
        have b3 : Below w2.heap.size w2 w3 := by subst hw3; exact (Below.refl _ _).alloc (Nat.le_refl _) _
        have HT3 : Hid (Tabs w3) := Lib.hid (HT2.out.below b3)
        clear b3
        rw [hg1]
        clear hw3 hg1
        go_wp2_with fail
        refine (checkfilter_any (opn F) _ hsz2 HT3.out).mono ?_
        rintro e w4 ⟨rfl, b4⟩
        rw [Hco.out]
        have c4 := c3.trans (b4.mono c3.size)
        go_wp2
        go_ret
        exact ⟨rfl, c4⟩
      · have h1 := Lib.hid (more_b Hmt.out HcO.out)
        have h2 := Lib.hid (more_d M Hmt.out Hal.out)
        cases cl
        · go_enter Tryd.func6, Tryd.ntmps6
          go_wp2_with fail
          refine (wakes_any _ HT.out).mono ?_
          rintro e w1 ⟨rfl, b1⟩
          have HT1 : Hid (Tabs w1) := Lib.hid (HT.out.below b1)
          go_wp2_with fail
          refine (match_any F N _ (by omega) (by omega) HT1.out).mono ?_
          rintro e w2 ⟨rfl, b2⟩
          rw [Hmt.out]
          have HT2 : Hid (Tabs w2) := Lib.hid (HT1.out.below b2)
          have c2 := b1.trans (b2.mono b1.size)
          go_wp2_with fail
          refine (levels_any F _ (by omega)).mono ?_
          rintro e w3 ⟨rfl, hw3⟩
          rw [HA.out] at hw3
          rw [HA.out, Hm.out]
          obtain ⟨g1, hg1⟩ : ∃ g, w2.heap.size = g := ⟨_, rfl⟩
          have hlast : w3.cell? ⟨g1, m, none⟩ = some (.string y) := by
            subst hw3
            rw [← hg1, World.cell?_alloc_mark, ← Hy.out]
            simp [Hz.out]
          have c3 : Below w.heap.size w w3 := by subst hw3; exact c2.alloc c2.size _
          have b3 : Below w2.heap.size w2 w3 := by subst hw3; exact (Below.refl _ _).alloc (Nat.le_refl _) _
          have HT3 : Hid (Tabs w3) := Lib.hid (HT2.out.below b3)
          clear b3
          rw [hg1]
          clear hw3 hg1
          go_wp2_with fail
          refine (checkfilter_any (opn F) _ hsz2 HT3.out).mono ?_
          rintro e w4 ⟨rfl, b4⟩
          rw [Hco.out]
          have c4 := c3.trans (b4.mono c3.size)
          have HT4 : Hid (Tabs w4) := Lib.hid (HT3.out.below b4)
          go_wp2_with fail
          refine (match_any (opn F) N _ hsz2 (by omega) HT4.out).mono ?_
          rintro e w5 ⟨rfl, b5⟩
          rw [h1.out]
          have c5 := c4.trans (b5.mono c4.size)
          have HT5 : Hid (Tabs w5) := Lib.hid (HT4.out.below b5)
          go_wp2_with fail
          refine (checkname_any (lgr N M) _ hsz HT5.out).mono ?_
          rintro e w6 ⟨rfl, b6⟩
          rw [Hcl.out]
          have c6 := c5.trans (b6.mono c5.size)
          go_wp2
          go_ret
          exact ⟨rfl, c6⟩
        · have h3 := Lib.hid (more_c M Hmt.out HcO.out HcB.out)
          go_enter Tryd.func6, Tryd.ntmps6
          go_wp2_with fail
          refine (wakes_any _ HT.out).mono ?_
          rintro e w1 ⟨rfl, b1⟩
          have HT1 : Hid (Tabs w1) := Lib.hid (HT.out.below b1)
          go_wp2_with fail
          refine (match_any F N _ (by omega) (by omega) HT1.out).mono ?_
          rintro e w2 ⟨rfl, b2⟩
          rw [Hmt.out]
          have HT2 : Hid (Tabs w2) := Lib.hid (HT1.out.below b2)
          have c2 := b1.trans (b2.mono b1.size)
          go_wp2_with fail
          refine (levels_any F _ (by omega)).mono ?_
          rintro e w3 ⟨rfl, hw3⟩
          rw [HA.out] at hw3
          rw [HA.out, Hm.out]
          obtain ⟨g1, hg1⟩ : ∃ g, w2.heap.size = g := ⟨_, rfl⟩
          have hlast : w3.cell? ⟨g1, m, none⟩ = some (.string y) := by
            subst hw3
            rw [← hg1, World.cell?_alloc_mark, ← Hy.out]
            simp [Hz.out]
          have c3 : Below w.heap.size w w3 := by subst hw3; exact c2.alloc c2.size _
          have b3 : Below w2.heap.size w2 w3 := by subst hw3; exact (Below.refl _ _).alloc (Nat.le_refl _) _
          have HT3 : Hid (Tabs w3) := Lib.hid (HT2.out.below b3)
          clear b3
          rw [hg1]
          clear hw3 hg1
          go_wp2_with fail
          refine (checkfilter_any (opn F) _ hsz2 HT3.out).mono ?_
          rintro e w4 ⟨rfl, b4⟩
          rw [Hco.out]
          have c4 := c3.trans (b4.mono c3.size)
          have HT4 : Hid (Tabs w4) := Lib.hid (HT3.out.below b4)
          go_wp2_with fail
          refine (match_any (opn F) N _ hsz2 (by omega) HT4.out).mono ?_
          rintro e w5 ⟨rfl, b5⟩
          rw [h1.out]
          have c5 := c4.trans (b5.mono c4.size)
          have HT5 : Hid (Tabs w5) := Lib.hid (HT4.out.below b5)
          go_wp2_with fail
          refine (checkname_any (lgr N M) _ hsz HT5.out).mono ?_
          rintro e w6 ⟨rfl, b6⟩
          rw [Hcl.out]
          have c6 := c5.trans (b6.mono c5.size)
          have HT6 : Hid (Tabs w6) := Lib.hid (HT5.out.below b6)
          go_wp2_with fail
          refine (match_any (opn F) (lgr N M) _ hsz2 hsz HT6.out).mono ?_
          rintro e w7 ⟨rfl, b7⟩
          rw [h3.out]
          have c7 := c6.trans (b7.mono c6.size)
          have HT7 : Hid (Tabs w7) := Lib.hid (HT6.out.below b7)
          go_wp2_with fail
          refine (match_any F (lgr N M) _ (by omega) hsz HT7.out).mono ?_
          rintro e w8 ⟨rfl, b8⟩
          rw [h2.out]
          have c8 := c7.trans (b8.mono c7.size)
          go_wp2
          go_ret
          exact ⟨rfl, c8⟩
    · cases cl
      · go_enter Tryd.func6, Tryd.ntmps6
        go_wp2_with fail
        refine (wakes_any _ HT.out).mono ?_
        rintro e w1 ⟨rfl, b1⟩
        have HT1 : Hid (Tabs w1) := Lib.hid (HT.out.below b1)
        go_wp2_with fail
        refine (match_any F N _ (by omega) (by omega) HT1.out).mono ?_
        rintro e w2 ⟨rfl, b2⟩
        rw [Hmt.out]
        have HT2 : Hid (Tabs w2) := Lib.hid (HT1.out.below b2)
        have c2 := b1.trans (b2.mono b1.size)
        go_wp2_with fail
        refine (levels_any F _ (by omega)).mono ?_
        rintro e w3 ⟨rfl, hw3⟩
        rw [HA.out] at hw3
        rw [HA.out, Hm.out]
        obtain ⟨g1, hg1⟩ : ∃ g, w2.heap.size = g := ⟨_, rfl⟩
        have hlast : w3.cell? ⟨g1, m, none⟩ = some (.string y) := by
          subst hw3
          rw [← hg1, World.cell?_alloc_mark, ← Hy.out]
          simp [Hz.out]
        have c3 : Below w.heap.size w w3 := by subst hw3; exact c2.alloc c2.size _
        have b3 : Below w2.heap.size w2 w3 := by subst hw3; exact (Below.refl _ _).alloc (Nat.le_refl _) _
        have HT3 : Hid (Tabs w3) := Lib.hid (HT2.out.below b3)
        clear b3
        rw [hg1]
        clear hw3 hg1
        go_wp2_with fail
        refine (checkname_any (lgr N M) _ hsz HT3.out).mono ?_
        rintro e w6 ⟨rfl, b6⟩
        rw [Hcl.out]
        have c6 := c3.trans (b6.mono c3.size)
        go_wp2
        go_ret
        exact ⟨rfl, c6⟩
      · have h3 := Lib.hid (more_a M Hmt.out Hal.out HcB.out)
        go_enter Tryd.func6, Tryd.ntmps6
        go_wp2_with fail
        refine (wakes_any _ HT.out).mono ?_
        rintro e w1 ⟨rfl, b1⟩
        have HT1 : Hid (Tabs w1) := Lib.hid (HT.out.below b1)
        go_wp2_with fail
        refine (match_any F N _ (by omega) (by omega) HT1.out).mono ?_
        rintro e w2 ⟨rfl, b2⟩
        rw [Hmt.out]
        have HT2 : Hid (Tabs w2) := Lib.hid (HT1.out.below b2)
        have c2 := b1.trans (b2.mono b1.size)
        go_wp2_with fail
        refine (levels_any F _ (by omega)).mono ?_
        rintro e w3 ⟨rfl, hw3⟩
        rw [HA.out] at hw3
        rw [HA.out, Hm.out]
        obtain ⟨g1, hg1⟩ : ∃ g, w2.heap.size = g := ⟨_, rfl⟩
        have hlast : w3.cell? ⟨g1, m, none⟩ = some (.string y) := by
          subst hw3
          rw [← hg1, World.cell?_alloc_mark, ← Hy.out]
          simp [Hz.out]
        have c3 : Below w.heap.size w w3 := by subst hw3; exact c2.alloc c2.size _
        have b3 : Below w2.heap.size w2 w3 := by subst hw3; exact (Below.refl _ _).alloc (Nat.le_refl _) _
        have HT3 : Hid (Tabs w3) := Lib.hid (HT2.out.below b3)
        clear b3
        rw [hg1]
        clear hw3 hg1
        go_wp2_with fail
        refine (checkname_any (lgr N M) _ hsz HT3.out).mono ?_
        rintro e w6 ⟨rfl, b6⟩
        rw [Hcl.out]
        have c6 := c3.trans (b6.mono c3.size)
        have HT6 : Hid (Tabs w6) := Lib.hid (HT3.out.below b6)
        go_wp2_with fail
        refine (match_any F (lgr N M) _ (by omega) hsz HT6.out).mono ?_
        rintro e w7 ⟨rfl, b7⟩
        rw [h3.out]
        have c7 := c6.trans (b7.mono c6.size)
        go_wp2
        go_ret
        exact ⟨rfl, c7⟩
end Go.Proofs.YtjkpmccnieodjaaDoor
