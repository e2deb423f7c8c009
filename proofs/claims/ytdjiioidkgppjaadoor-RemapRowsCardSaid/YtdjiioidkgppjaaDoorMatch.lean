/- The walk of package topic's Match. -/
import Derived.Test.YtdjiioidkgppjaaDoorTopicMatch
import Derived.Test.YtdjiioidkgppjaaDoorMatchPlain
namespace Go.Proofs.YtdjiioidkgppjaaDoor
set_option linter.unusedVariables false
open Go.RowKit Pl Go.Shelf

theorem match_bad1 (F N : ByteArray) (w : World) (hF : F.size ≤ 281474976710656) (hN : N.size ≤ 281474976710656) (hT : Tabs w) (h1 : filtB F = false) :
    Calls Tryd.prog 39 #[.string F, .string N] w fun e w' => e = .returned (.bool (mtB F N)) ∧ Below w.heap.size w w' := by
  have HT := Lib.hid hT
  have H1 := Lib.hid (filtC_bad h1)
  have Hr := Lib.hid (mt_filt (N := N) h1)
  clear hT h1
  go_enter Tryd.func39, Tryd.ntmps39
  go_wp2_with fail
  refine (checkfilter_any F _ hF HT.out).mono ?_
  rintro e w1 ⟨rfl, b1⟩
  rw [H1.out]
  go_wp2
  go_ret
  exact ⟨ret_bool Hr.out.symm, b1⟩
theorem match_bad2 (F N : ByteArray) (w : World) (hF : F.size ≤ 281474976710656) (hN : N.size ≤ 281474976710656) (hT : Tabs w) (h1 : filtB F = true) (h2 : nameB N = false) :
    Calls Tryd.prog 39 #[.string F, .string N] w fun e w' => e = .returned (.bool (mtB F N)) ∧ Below w.heap.size w w' := by
  have HT := Lib.hid hT
  have H1 := Lib.hid (filtC_ok h1)
  have H2 := Lib.hid (nameC_bad h2)
  have Hr := Lib.hid (mt_name (F := F) h2)
  clear hT h1 h2
  go_enter Tryd.func39, Tryd.ntmps39
  go_wp2_with fail
  refine (checkfilter_any F _ hF HT.out).mono ?_
  rintro e w1 ⟨rfl, b1⟩
  rw [H1.out]
  have HT1 : Hid (Tabs w1) := Lib.hid (HT.out.below b1)
  go_wp2_with fail
  refine (checkname_any N _ hN HT1.out).mono ?_
  rintro e w2 ⟨rfl, b2⟩
  rw [H2.out]
  go_wp2
  go_ret
  exact ⟨ret_bool Hr.out.symm, b1.trans (b2.mono b1.size)⟩
theorem match_dol (F N : ByteArray) (w : World) (hT : Tabs w) (h1 : filtB F = true) (h2 : nameB N = true) (h3 : dol F.data.toList N.data.toList = true) :
    Calls Tryd.prog 39 #[.string F, .string N] w fun e w' => e = .returned (.bool (mtB F N)) ∧ Below w.heap.size w w' := by
  have HT := Lib.hid hT
  have H1 := Lib.hid (filtC_ok h1)
  have H2 := Lib.hid (nameC_ok h2)
  have Hr := Lib.hid (mt_dol h3)
  have sF := szd_size (filt_szd2 h1).1
  have sN := szd_size (name_szd h2)
  have hF0 := sF.1
  have hN0 := sN.1
  have hF1 := sF.2.1
  have hN1 := sN.2.1
  rw [dol_at F N hF0 hN0] at h3
  have e1 := head_one F hF0 43 43 rfl
  have e2 := head_one F hF0 35 35 rfl
  cases b1 : ((N[0].toNat : Int) == 36)
  · rw [b1] at h3; cases h3
  · cases b2 : ((F[0].toNat : Int) == 43)
    · cases b3 : ((F[0].toNat : Int) == 35)
      · rw [b1, b2, b3] at h3; cases h3
      · have f1 : ((F.extract 0 1).toList == [43]) = false := e1.trans b2
        have f2 : ((F.extract 0 1).toList == [35]) = true := e2.trans b3
        clear hT h1 h2 sF sN h3 e1 e2 b2 b3
        go_enter Tryd.func39, Tryd.ntmps39
        go_wp2_with fail
        refine (checkfilter_any F _ (by omega) HT.out).mono ?_
        rintro e w1 ⟨rfl, b1⟩
        rw [H1.out]
        have HT1 : Hid (Tabs w1) := Lib.hid (HT.out.below b1)
        go_wp2_with fail
        refine (checkname_any N _ (by omega) HT1.out).mono ?_
        rintro e w2 ⟨rfl, b2⟩
        rw [H2.out]
        go_wp2
        go_ret
        exact ⟨ret_bool Hr.out.symm, b1.trans (b2.mono b1.size)⟩
    · have f1 : ((F.extract 0 1).toList == [43]) = true := e1.trans b2
      clear hT h1 h2 sF sN h3 e1 e2 b2
      go_enter Tryd.func39, Tryd.ntmps39
      go_wp2_with fail
      refine (checkfilter_any F _ (by omega) HT.out).mono ?_
      rintro e w1 ⟨rfl, b1⟩
      rw [H1.out]
      have HT1 : Hid (Tabs w1) := Lib.hid (HT.out.below b1)
      go_wp2_with fail
      refine (checkname_any N _ (by omega) HT1.out).mono ?_
      rintro e w2 ⟨rfl, b2⟩
      rw [H2.out]
      go_wp2
      go_ret
      exact ⟨ret_bool Hr.out.symm, b1.trans (b2.mono b1.size)⟩

set_option maxHeartbeats 1000000 in
theorem match_ok (F N : ByteArray) (w : World) (hT : Tabs w) (h1 : filtB F = true) (h2 : nameB N = true) (h3 : dol F.data.toList N.data.toList = false) :
    Calls Tryd.prog 39 #[.string F, .string N] w fun e w' => e = .returned (.bool (mtB F N)) ∧ Below w.heap.size w w' := by
  have HT := Lib.hid hT
  have H1 := Lib.hid (filtC_ok h1)
  have H2 := Lib.hid (nameC_ok h2)
  have hr := (mt_lev h1 h2 h3).trans (pmt_mtL _ (lev_ne _) (filt_szd2 h1).2 _).symm
  have sF := szd_size (filt_szd2 h1).1
  have sN := szd_size (name_szd h2)
  have hF0 := sF.1
  have hN0 := sN.1
  have hF1 := sF.2.1
  have hN1 := sN.2.1
  have pF := lev_pos F.data.toList
  have nF := sF.2.2
  have nN := sN.2.2
  rw [dol_at F N hF0 hN0] at h3
  have e1 := head_one F hF0 43 43 rfl
  have e2 := head_one F hF0 35 35 rfl
  obtain ⟨A, hA⟩ : ∃ A, lev F.data.toList = A := ⟨_, rfl⟩
  obtain ⟨B, hB⟩ : ∃ B, lev N.data.toList = B := ⟨_, rfl⟩
  rw [hA, hB] at hr
  rw [hA] at pF nF
  rw [hB] at nN
  obtain ⟨m, hm⟩ : ∃ m, A.length = m + 1 := ⟨A.length - 1, by omega⟩
  obtain ⟨n, hn⟩ : ∃ n, B.length = n := ⟨_, rfl⟩
  obtain ⟨z, hz⟩ : ∃ z, A[m]? = some z := ⟨_, List.getElem?_eq_getElem (by omega)⟩
  have hall := last_at hm hz
  rw [hm] at nF
  rw [hn] at nN
  have HA := Lib.hid hA
  have HB := Lib.hid hB
  have Hm := Lib.hid hm
  have Hn := Lib.hid hn
  have Hz := Lib.hid hz
  have Hr := Lib.hid hr
  obtain ⟨y, hy⟩ : ∃ y : ByteArray, (⟨z.toArray⟩ : ByteArray) = y := ⟨_, rfl⟩
  have hyz : z = y.data.toList := by rw [← hy]
  have hall2 : (y.toList == [35]) = allB A := by rw [hall, ByteArray.toList_eq, ← hyz]
  have Hy := Lib.hid (show strV z = .string y by rw [← hy]; rfl)
  obtain ⟨al, hal⟩ : ∃ al, allB A = al := ⟨_, rfl⟩
  rw [hal] at hall2
  have Hal := Lib.hid hal
  clear hT h1 h2 hr sF sN hA hB hm hn hz hall hy hyz hal pF
  have hd : ((N[0].toNat : Int) == 36) = false ∨ (((N[0].toNat : Int) == 36) = true ∧ ((F.extract 0 1).toList == [43]) = false ∧ ((F.extract 0 1).toList == [35]) = false) := by
    rw [e1, e2]
    revert h3
    cases ((N[0].toNat : Int) == 36) <;> cases ((F[0].toNat : Int) == 43) <;> cases ((F[0].toNat : Int) == 35) <;> decide
  clear h3 e1 e2
  rcases hd with hd | ⟨hd, f1, f2⟩
  all_goals
    go_enter Tryd.func39, Tryd.ntmps39
    go_wp2_with fail
    refine (checkfilter_any F _ (by omega) HT.out).mono ?_
    rintro e w1 ⟨rfl, b1⟩
    rw [H1.out]
    have HT1 : Hid (Tabs w1) := Lib.hid (HT.out.below b1)
    go_wp2_with fail
    refine (checkname_any N _ (by omega) HT1.out).mono ?_
    rintro e w2 ⟨rfl, b2⟩
    rw [H2.out]
    have b12 := b1.trans (b2.mono b1.size)
    go_wp2_with fail
    refine (levels_any F _ (by omega)).mono ?_
    rintro e w3 ⟨rfl, hw3⟩
    rw [HA.out] at hw3
    rw [HA.out, Hm.out]
    obtain ⟨g1, hg1⟩ : ∃ g, w2.heap.size = g := ⟨_, rfl⟩
    have hc1 : ∀ (k : Nat) x, A[k]? = some x → w3.cell? ⟨g1, k, none⟩ = some (strV x) := by
      intro k x hx
      subst hw3
      rw [← hg1, World.cell?_alloc_mark]
      simp [hx]
    have hs3 : g1 < w3.heap.size := by subst hw3; rw [← hg1]; simp
    have b3 : Below w.heap.size w w3 := by subst hw3; exact b12.alloc b12.size _
    rw [hg1]
    clear hw3 hg1
    have Hc1 := Lib.hid hc1
    clear hc1
    go_wp2_with fail
    refine (levels_any N _ (by omega)).mono ?_
    rintro e w4 ⟨rfl, hw4⟩
    rw [HB.out] at hw4
    rw [HB.out, Hn.out]
    obtain ⟨g2, hg2⟩ : ∃ g, w3.heap.size = g := ⟨_, rfl⟩
    have hc2 : ∀ (k : Nat) x, B[k]? = some x → w4.cell? ⟨g2, k, none⟩ = some (strV x) := by
      intro k x hx
      subst hw4
      rw [← hg2, World.cell?_alloc_mark]
      simp [hx]
    have hc1' : ∀ (k : Nat) x, A[k]? = some x → w4.cell? ⟨g1, k, none⟩ = some (strV x) := by
      intro k x hx
      subst hw4
      rw [World.cell?_alloc_lt _ _ _ hs3]
      exact Hc1.out k x hx
    have b4 : Below w.heap.size w w4 := by subst hw4; exact b3.alloc b3.size _
    rw [hg2]
    have hlast : w4.cell? ⟨g1, m, none⟩ = some (.string y) := by rw [hc1' m z Hz.out, Hy.out]
    have Hd1 := Lib.hid hc1'
    have Hd2 := Lib.hid hc2
    clear hw4 hg2 hc2 hc1' Hc1 hs3
    cases al
    · by_cases hlt : n < m + 1
      · have hv := Lib.hid (show mtB F N = false by
          rw [Hr.out]; unfold pmt
          rw [cutL_not Hal.out, Hm.out, Hn.out, decide_eq_true hlt]; rfl)
        go_wp2
        go_ret
        exact ⟨ret_bool hv.out.symm, b4⟩
      · by_cases hgt : m + 1 < n
        · have hv := Lib.hid (show mtB F N = false by
            rw [Hr.out]; unfold pmt
            rw [cutL_not Hal.out, Hm.out, Hn.out, decide_eq_true hgt, Hal.out]; simp)
          go_wp2
          go_ret
          exact ⟨ret_bool hv.out.symm, b4⟩
        · have hv := Lib.hid (show mtB F N = eqB A (B.take (m + 1)) by
            rw [Hr.out]; unfold pmt
            rw [cutL_not Hal.out, Hm.out, Hn.out, decide_eq_false hlt, decide_eq_false hgt]; simp)
          go_wp2_with fail
          refine (equalfunc_any (m + 1) g1 g2 _ _ A (B.take (m + 1)) _ Hm.out (by rw [List.length_take, Hn.out]; omega) (by omega) Hd1.out (fun k x hx => Hd2.out k x (by
            rw [List.getElem?_take] at hx
            split at hx
            · exact hx
            · cases hx))).mono ?_
          rintro e w5 ⟨rfl, rfl⟩
          go_wp2
          go_ret
          exact ⟨ret_bool hv.out.symm, b4⟩
    · by_cases hlt : n < m
      · have hv := Lib.hid (show mtB F N = false by
          rw [Hr.out]; unfold pmt
          rw [cutL_all Hal.out, List.length_dropLast, Hm.out, Hn.out, Nat.add_sub_cancel, decide_eq_true hlt]; rfl)
        go_wp2
        go_ret
        exact ⟨ret_bool hv.out.symm, b4⟩
      · have hv := Lib.hid (show mtB F N = eqB A.dropLast (B.take m) by
          rw [Hr.out]; unfold pmt
          rw [cutL_all Hal.out, List.length_dropLast, Hm.out, Hn.out, Nat.add_sub_cancel, decide_eq_false hlt, Hal.out]; simp)
        go_wp2_with fail
        refine (equalfunc_any m g1 g2 _ _ A.dropLast (B.take m) _ (by rw [List.length_dropLast, Hm.out]; rfl) (by rw [List.length_take, Hn.out]; omega) (by omega) (fun k x hx => Hd1.out k x (by
            rw [List.getElem?_dropLast] at hx
            split at hx
            · exact hx
            · cases hx)) (fun k x hx => Hd2.out k x (by
            rw [List.getElem?_take] at hx
            split at hx
            · exact hx
            · cases hx))).mono ?_
        rintro e w5 ⟨rfl, rfl⟩
        go_wp2
        go_ret
        exact ⟨ret_bool hv.out.symm, b4⟩

theorem match_any (F N : ByteArray) (w : World) (hF : F.size ≤ 281474976710656) (hN : N.size ≤ 281474976710656) (hT : Tabs w) :
    Calls Tryd.prog 39 #[.string F, .string N] w fun e w' => e = .returned (.bool (mtB F N)) ∧ Below w.heap.size w w' := by
  cases h1 : filtB F
  · exact match_bad1 F N w hF hN hT h1
  · cases h2 : nameB N
    · exact match_bad2 F N w hF hN hT h1 h2
    · cases h3 : dol F.data.toList N.data.toList
      · exact match_ok F N w hT h1 h2 h3
      · exact match_dol F N w hT h1 h2 h3
end Go.Proofs.YtdjiioidkgppjaaDoor
