/- The walk of the document's Match (layer 7). -/
import Derived.Test.YtdjiioidkgppjaaDoorTopicRef2
import Derived.Test.YtdjiioidkgppjaaDoorRefName
import Derived.Test.YtdjiioidkgppjaaDoorMatchPlain
namespace Go.Proofs.YtdjiioidkgppjaaDoor
set_option linter.unusedVariables false
open Go.RowKit Pl Go.Shelf

theorem refmatch_bad1 (F N : ByteArray) (w : World) (hF : F.size ≤ 281474976710656) (hN : N.size ≤ 281474976710656) (h : filtB F = false) :
    Calls Tryd.prog 40 #[.string F, .string N] w fun e w' => e = .returned (.bool (mtB F N)) ∧ Below w.heap.size w w' := by
  have H1 := Lib.hid (filtC_bad h)
  have Hr := Lib.hid (mt_filt (N := N) h)
  clear h
  go_enter Tryd.func40, Tryd.ntmps40
  go_wp2_with fail
  refine (refcheckfilter_any F _ hF).mono ?_
  rintro e w1 ⟨rfl, b1⟩
  rw [H1.out]
  go_wp2_with fail
  refine (refcheckname_any N _ hN).mono ?_
  rintro e w2 ⟨rfl, b2⟩
  go_wp2
  go_ret
  exact ⟨ret_bool Hr.out.symm, b1.trans (b2.mono b1.size)⟩
theorem refmatch_bad2 (F N : ByteArray) (w : World) (hF : F.size ≤ 281474976710656) (hN : N.size ≤ 281474976710656) (h1 : filtB F = true) (h2 : nameB N = false) :
    Calls Tryd.prog 40 #[.string F, .string N] w fun e w' => e = .returned (.bool (mtB F N)) ∧ Below w.heap.size w w' := by
  have H1 := Lib.hid (filtC_ok h1)
  have H2 := Lib.hid (nameC_bad h2)
  have Hr := Lib.hid (mt_name (F := F) h2)
  clear h1 h2
  go_enter Tryd.func40, Tryd.ntmps40
  go_wp2_with fail
  refine (refcheckfilter_any F _ hF).mono ?_
  rintro e w1 ⟨rfl, b1⟩
  rw [H1.out]
  go_wp2_with fail
  refine (refcheckname_any N _ hN).mono ?_
  rintro e w2 ⟨rfl, b2⟩
  rw [H2.out]
  go_wp2
  go_ret
  exact ⟨ret_bool Hr.out.symm, b1.trans (b2.mono b1.size)⟩
theorem refmatch_dol (F N : ByteArray) (w : World) (h1 : filtB F = true) (h2 : nameB N = true) (h3 : dol F.data.toList N.data.toList = true) :
    Calls Tryd.prog 40 #[.string F, .string N] w fun e w' => e = .returned (.bool (mtB F N)) ∧ Below w.heap.size w w' := by
  have H1 := Lib.hid (filtC_ok h1)
  have H2 := Lib.hid (nameC_ok h2)
  have Hr := Lib.hid (mt_dol h3)
  have sF := szd_size (filt_szd2 h1).1
  have sN := szd_size (name_szd h2)
  have hF0 := sF.1
  have hN0 := sN.1
  have hF1 := sF.2.1
  have hN1 := sN.2.1
  rw [dol_at F N hF0 hN0] at h3
  clear h1 h2 sF sN
  cases b1 : ((N[0].toNat : Int) == 36)
  · rw [b1] at h3; cases h3
  · cases b2 : ((F[0].toNat : Int) == 43)
    · cases b3 : ((F[0].toNat : Int) == 35)
      · rw [b1, b2, b3] at h3; cases h3
      · clear h3
        go_enter Tryd.func40, Tryd.ntmps40
        go_wp2_with fail
        refine (refcheckfilter_any F _ (by omega)).mono ?_
        rintro e w1 ⟨rfl, b1⟩
        rw [H1.out]
        go_wp2_with fail
        refine (refcheckname_any N _ (by omega)).mono ?_
        rintro e w2 ⟨rfl, b2⟩
        rw [H2.out]
        go_wp2
        go_ret
        exact ⟨ret_bool Hr.out.symm, b1.trans (b2.mono b1.size)⟩
    · clear h3
      go_enter Tryd.func40, Tryd.ntmps40
      go_wp2_with fail
      refine (refcheckfilter_any F _ (by omega)).mono ?_
      rintro e w1 ⟨rfl, b1⟩
      rw [H1.out]
      go_wp2_with fail
      refine (refcheckname_any N _ (by omega)).mono ?_
      rintro e w2 ⟨rfl, b2⟩
      rw [H2.out]
      go_wp2
      go_ret
      exact ⟨ret_bool Hr.out.symm, b1.trans (b2.mono b1.size)⟩

theorem Pl.mtL_hash {A B : List Bs} {k : Nat} {x : Bs} (h : A[k]? = some x) (hx : x = [35]) : mtL (A.drop k) B = true := by
  obtain ⟨hk, e⟩ := List.getElem?_eq_some_iff.1 h
  rw [List.drop_eq_getElem_cons hk, e]
  unfold mtL
  rw [if_pos hx]
theorem Pl.mtL_short {A B : List Bs} {k : Nat} {x : Bs} (h : A[k]? = some x) (hx : x ≠ [35]) (hb : B.length ≤ k) : mtL (A.drop k) (B.drop k) = false := by
  obtain ⟨hk, e⟩ := List.getElem?_eq_some_iff.1 h
  rw [List.drop_eq_getElem_cons hk, e, List.drop_eq_nil_of_le hb]
  unfold mtL
  rw [if_neg hx]
theorem Pl.mtL_step {A B : List Bs} {k : Nat} {x y : Bs} (h : A[k]? = some x) (h2 : B[k]? = some y) (hx : x ≠ [35]) : mtL (A.drop k) (B.drop k) = (one x y && mtL (A.drop (k + 1)) (B.drop (k + 1))) := by
  obtain ⟨hk, e⟩ := List.getElem?_eq_some_iff.1 h
  obtain ⟨hk2, e2⟩ := List.getElem?_eq_some_iff.1 h2
  rw [List.drop_eq_getElem_cons hk, e, List.drop_eq_getElem_cons hk2, e2, mtL_cons hx]
  rfl
theorem Pl.mtL_done {A B : List Bs} {k : Nat} (h : A.length = k) (hb : k ≤ B.length) : mtL (A.drop k) (B.drop k) = ((k : Int) == (B.length : Int)) := by
  rw [List.drop_eq_nil_of_le (by omega)]
  rw [Bool.eq_iff_iff, beq_iff_eq]
  cases hd : B.drop k with
  | nil =>
    have := List.drop_eq_nil_iff.1 hd
    simp [mtL]; omega
  | cons b r =>
    have : (B.drop k).length = r.length + 1 := by rw [hd]; rfl
    rw [List.length_drop] at this
    simp [mtL]; omega

set_option maxHeartbeats 1000000 in
theorem refmatch_ok (F N : ByteArray) (w : World) (h1 : filtB F = true) (h2 : nameB N = true) (h3 : dol F.data.toList N.data.toList = false) :
    Calls Tryd.prog 40 #[.string F, .string N] w fun e w' => e = .returned (.bool (mtB F N)) ∧ Below w.heap.size w w' := by
  have H1 := Lib.hid (filtC_ok h1)
  have H2 := Lib.hid (nameC_ok h2)
  have hr := mt_lev h1 h2 h3
  have sF := szd_size (filt_szd2 h1).1
  have sN := szd_size (name_szd h2)
  have hF0 := sF.1
  have hN0 := sN.1
  have hF1 := sF.2.1
  have hN1 := sN.2.1
  have nF := sF.2.2
  have nN := sN.2.2
  rw [dol_at F N hF0 hN0] at h3
  have hd : ((N[0].toNat : Int) == 36) = false ∨ (((N[0].toNat : Int) == 36) = true ∧ ((F[0].toNat : Int) == 43) = false ∧ ((F[0].toNat : Int) == 35) = false) := by
    revert h3
    cases ((N[0].toNat : Int) == 36) <;> cases ((F[0].toNat : Int) == 43) <;> cases ((F[0].toNat : Int) == 35) <;> decide
  have Hr := Lib.hid hr
  clear h1 h2 hr sF sN h3
  rcases hd with hd | ⟨hd, f1, f2⟩
  all_goals
    go_enter Tryd.func40, Tryd.ntmps40
    go_wp2_with fail
    refine (refcheckfilter_any F _ (by omega)).mono ?_
    rintro e w1 ⟨rfl, b1⟩
    rw [H1.out]
    go_wp2_with fail
    refine (refcheckname_any N _ (by omega)).mono ?_
    rintro e w2 ⟨rfl, b2⟩
    rw [H2.out]
    have b12 := b1.trans (b2.mono b1.size)
    go_wp2_with fail
    refine (reflevels_any F _ (by omega)).mono ?_
    rintro e w3 ⟨v3, rfl, ⟨g1, c1, rfl, hcap1, hg1, hc1⟩, b3⟩
    have Hc1 := Lib.hid hc1
    have b13 := b12.trans (b3.mono b12.size)
    clear hc1
    go_wp2_with fail
    refine (reflevels_any N _ (by omega)).mono ?_
    rintro e w4 ⟨v4, rfl, ⟨g2, c2, rfl, hcap2, hg2, hc2⟩, b4⟩
    have Hc2 := Lib.hid hc2
    have b14 := b13.trans (b4.mono b13.size)
    have Hd1 : Hid (∀ (k : Nat) x, (lev F.data.toList)[k]? = some x → w4.cell? ⟨g1, k, none⟩ = some (strV x)) := Lib.hid fun k x hx => (b4.cell (p := ⟨g1, k, none⟩) hg1).trans (Hc1.out k x hx)
    clear hc2 Hc1
    obtain ⟨A, hA⟩ : ∃ A, lev F.data.toList = A := ⟨_, rfl⟩
    obtain ⟨B, hB⟩ : ∃ B, lev N.data.toList = B := ⟨_, rfl⟩
    rw [hA] at Hd1 nF hcap1
    rw [hB] at Hc2 nN hcap2
    rw [hA, hB] at Hr ⊢
    clear hA hB
    obtain ⟨m, hm⟩ : ∃ m, A.length = m := ⟨_, rfl⟩
    obtain ⟨n, hn⟩ : ∃ n, B.length = n := ⟨_, rfl⟩
    rw [hm] at nF hcap1
    rw [hn] at nN hcap2
    rw [hm, hn]
    have Hm := Lib.hid hm
    have Hn := Lib.hid hn
    clear hm hn
    go_wp2
    go_loopw [9] (fun i wr => ∃ k : Nat, i = .int .i64 k ∧ k ≤ m ∧ k ≤ n ∧ Hid (mtL A B = mtL (A.drop k) (B.drop k)) ∧ Hid (∀ p, wr.cell? p = w4.cell? p) ∧ Below w.heap.size w wr) (fun i _ => m - (intOf i).toNat)
    case atStart => exact ⟨0, rfl, by omega, by omega, Lib.hid (by rw [List.drop_zero, List.drop_zero]), Lib.hid (fun _ => rfl), b14⟩
    case round =>
      obtain ⟨k, rfl, hk, hkn, hv, hcell, hbel⟩ := hrel
      by_cases hlt : k < m
      · obtain ⟨x, hx⟩ : ∃ x, A[k]? = some x := ⟨_, List.getElem?_eq_getElem (by rw [Hm.out]; exact hlt)⟩
        have hcx := (hcell.out _).trans (Hd1.out k x hx)
        obtain ⟨y, hy⟩ : ∃ y : ByteArray, (⟨x.toArray⟩ : ByteArray) = y := ⟨_, rfl⟩
        have hyx : x = y.data.toList := by rw [← hy]
        have hcy : wr.cell? ⟨g1, k, none⟩ = some (.string y) := by rw [hcx, ← hy]; rfl
        have hN35 : (y.toList == [35]) = (y.data.toList == [35]) := by rw [ByteArray.toList_eq]
        have hN43 : (y.toList == [43]) = (y.data.toList == [43]) := by rw [ByteArray.toList_eq]
        rw [hyx] at hx
        clear hcx hy hyx
        cases h35 : y.data.toList == [35]
        · have e35 : (y.toList == [35]) = false := hN35.trans h35
          have hne : y.data.toList ≠ [35] := beq_eq_false_iff_ne.1 h35
          by_cases hkn2 : k < n
          · have hge : ¬ (n : Int) ≤ k := by omega
            obtain ⟨z', hz⟩ : ∃ z, B[k]? = some z := ⟨_, List.getElem?_eq_getElem (by rw [Hn.out]; exact hkn2)⟩
            have hcz := (hcell.out _).trans (Hc2.out k z' hz)
            obtain ⟨z, hz'⟩ : ∃ z : ByteArray, (⟨z'.toArray⟩ : ByteArray) = z := ⟨_, rfl⟩
            have hzz : z' = z.data.toList := by rw [← hz']
            have hcz2 : wr.cell? ⟨g2, k, none⟩ = some (.string z) := by rw [hcz, ← hz']; rfl
            rw [hzz] at hz
            have hf := hv.out.trans (mtL_step hx hz hne)
            clear hcz hz' hzz hx hz
            cases h43 : y.data.toList == [43]
            · have e43 : (y.toList == [43]) = false := hN43.trans h43
              have e43' : (y.toList != [43]) = true := by unfold bne; rw [e43]; rfl
              cases hyz : y.data.toList == z.data.toList
              · have eyz : (y.toList == z.toList) = false := by rw [ByteArray.toList_eq, ByteArray.toList_eq]; exact hyz
                have eyz' : (y.toList != z.toList) = true := by unfold bne; rw [eyz]; rfl
                have Hf := Lib.hid (show mtL A B = false by rw [hf]; unfold one; rw [h43, hyz]; rfl)
                clear hf h43 hyz h35 hne hN35 hN43
                go_wp2
                go_quiet (fail)
                go_wp2
                go_ret
                exact ⟨ret_bool (by rw [Hr.out, Hf.out]), ⟨hbel.os, hbel.tape, hbel.output, hbel.size, hbel.block⟩⟩
              · have eyz : (y.toList == z.toList) = true := by rw [ByteArray.toList_eq, ByteArray.toList_eq]; exact hyz
                have eyz' : (y.toList != z.toList) = false := by unfold bne; rw [eyz]; rfl
                have Hf := Lib.hid (show mtL A B = mtL (A.drop (k + 1)) (B.drop (k + 1)) by rw [hf]; unfold one; rw [h43, hyz]; rfl)
                clear hf h43 hyz h35 hne hN35 hN43
                go_wp2
                go_quiet (fail)
                go_wp2
                go_roundw
                case rel => exact ⟨k + 1, by go_num, by omega, by omega, Hf, Lib.hid (fun p => hcell.out p), ⟨hbel.os, hbel.tape, hbel.output, hbel.size, hbel.block⟩⟩
                case measure => simp [intOf]; omega
            · have e43 : (y.toList == [43]) = true := hN43.trans h43
              have e43' : (y.toList != [43]) = false := by unfold bne; rw [e43]; rfl
              have Hf := Lib.hid (show mtL A B = mtL (A.drop (k + 1)) (B.drop (k + 1)) by rw [hf]; unfold one; rw [h43]; rfl)
              clear hf h43 h35 hne hN35 hN43
              go_wp2
              go_quiet (fail)
              go_wp2
              go_roundw
              case rel => exact ⟨k + 1, by go_num, by omega, by omega, Hf, Lib.hid (fun p => hcell.out p), ⟨hbel.os, hbel.tape, hbel.output, hbel.size, hbel.block⟩⟩
              case measure => simp [intOf]; omega
          · have hge : (n : Int) ≤ k := by omega
            have Hf := Lib.hid (show mtL A B = false from hv.out.trans (mtL_short hx hne (by rw [Hn.out]; omega)))
            clear hx h35 hne hN35 hN43
            go_wp2
            go_ret
            exact ⟨ret_bool (by rw [Hr.out, Hf.out]), hbel⟩
        · have e35 : (y.toList == [35]) = true := hN35.trans h35
          have Hf := Lib.hid (show mtL A B = true from hv.out.trans (mtL_hash hx (beq_iff_eq.1 h35)))
          clear hx h35 hN35 hN43
          go_wp2
          go_ret
          exact ⟨ret_bool (by rw [Hr.out, Hf.out]), hbel⟩
      · obtain rfl : k = m := by omega
        obtain ⟨b, hb⟩ : ∃ b, ((k : Int) == (n : Int)) = b := ⟨_, rfl⟩
        have Hf := Lib.hid (show mtL A B = b by rw [hv.out, mtL_done Hm.out (by rw [Hn.out]; exact hkn), Hn.out]; exact hb)
        go_wp2
        go_ret
        exact ⟨ret_bool (by rw [Hr.out, Hf.out]), hbel⟩

theorem refmatch_any (F N : ByteArray) (w : World) (hF : F.size ≤ 281474976710656) (hN : N.size ≤ 281474976710656) :
    Calls Tryd.prog 40 #[.string F, .string N] w fun e w' => e = .returned (.bool (mtB F N)) ∧ Below w.heap.size w w' := by
  cases h1 : filtB F
  · exact refmatch_bad1 F N w hF hN h1
  · cases h2 : nameB N
    · exact refmatch_bad2 F N w hF hN h1 h2
    · cases h3 : dol F.data.toList N.data.toList
      · exact refmatch_ok F N w h1 h2 h3
      · exact refmatch_dol F N w h1 h2 h3
end Go.Proofs.YtdjiioidkgppjaaDoor
