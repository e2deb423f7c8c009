/- The walk of the document's Matches (layer 8). -/
import Derived.Test.YtichhppfdjkgkaaDoorTopicRef2
import Derived.Test.YtichhppfdjkgkaaDoorOverLaws
import Derived.Deep.DeepCutAuto
namespace Go.Proofs.YtichhppfdjkgkaaDoor
set_option linter.unusedVariables false
open Go.RowKit Pl Go.Shelf

theorem Pl.mtM_hash {A B : List Bs} {k : Nat} {x : Bs} (h : A[k]? = some x) (hx : x = [35]) : mtL (A.drop k) B = true := by
  obtain ⟨hk, e⟩ := List.getElem?_eq_some_iff.1 h
  rw [List.drop_eq_getElem_cons hk, e]
  unfold mtL
  rw [if_pos hx]
theorem Pl.mtM_short {A B : List Bs} {k : Nat} {x : Bs} (h : A[k]? = some x) (hx : x ≠ [35]) (hb : B.length ≤ k) : mtL (A.drop k) (B.drop k) = false := by
  obtain ⟨hk, e⟩ := List.getElem?_eq_some_iff.1 h
  rw [List.drop_eq_getElem_cons hk, e, List.drop_eq_nil_of_le hb]
  unfold mtL
  rw [if_neg hx]
theorem Pl.mtM_step {A B : List Bs} {k : Nat} {x y : Bs} (h : A[k]? = some x) (h2 : B[k]? = some y) (hx : x ≠ [35]) : mtL (A.drop k) (B.drop k) = (one x y && mtL (A.drop (k + 1)) (B.drop (k + 1))) := by
  obtain ⟨hk, e⟩ := List.getElem?_eq_some_iff.1 h
  obtain ⟨hk2, e2⟩ := List.getElem?_eq_some_iff.1 h2
  rw [List.drop_eq_getElem_cons hk, e, List.drop_eq_getElem_cons hk2, e2, mtL_cons hx]
  rfl
theorem Pl.mtM_done {A B : List Bs} {k : Nat} (h : A.length = k) (hb : k ≤ B.length) : mtL (A.drop k) (B.drop k) = ((k : Int) == (B.length : Int)) := by
  rw [List.drop_eq_nil_of_le (by omega)]
  rw [Bool.eq_iff_iff, beq_iff_eq]
  cases hd : B.drop k with
  | nil =>
    have := List.drop_eq_nil_iff.1 hd
    simp [mtL]; omega
  | cons b r =>
    have : (B.drop k).length = r.length + 1 := by rw [hd]; rfl
    rw [List.length_drop] at this
    simp [mtL]; omega

theorem free_hit {l : Bs} {k : Nat} {b : UInt8} (h : l[k]? = some b) (hb : b = 43 ∨ b = 35 ∨ b = 0) : free (l.drop k) = false := by
  unfold free
  rw [has_drop h, has_drop h, has_drop h]
  rcases hb with rfl | rfl | rfl <;> simp
theorem free_pass {l : Bs} {k : Nat} {b : UInt8} (h : l[k]? = some b) (h1 : b ≠ 43) (h2 : b ≠ 35) (h3 : b ≠ 0) : free (l.drop k) = free (l.drop (k + 1)) := by
  unfold free
  rw [has_drop h, has_drop h, has_drop h, beq_eq_false_iff_ne.2 h1.symm, beq_eq_false_iff_ne.2 h2.symm, beq_eq_false_iff_ne.2 h3.symm]
  rfl
theorem byte_eq {b : UInt8} {c : UInt8} {x : Int} (hx : x = (c.toNat : Int)) : ((b.toNat : Int) == x) = (b == c) := by
  rw [Bool.eq_iff_iff, beq_iff_eq, beq_iff_eq, hx]
  constructor
  · intro h; exact UInt8.toNat_inj.1 (by omega)
  · intro h; rw [h]
theorem lev_le (l : Bs) : (lev l).length ≤ l.length + 1 := by
  rw [lev_len]; have := List.count_le_length (a := (47 : UInt8)) (l := l); omega
set_option maxRecDepth 100000 in
set_option maxHeartbeats 8000000 in
theorem refmatches_any (F N : ByteArray) (w : World) (hF : F.size ≤ 281474976710656) (hN : N.size ≤ 4294967280) :
    Calls Tryd.prog 14 #[.string F, .string N] w fun e w' => e = .returned (.bool (rmB F N)) ∧ Below w.heap.size w w' := by
  have C1 := Lib.hid (refcheckfilter_any F w hF)
  cases h1 : filtB F
  · have H1 := Lib.hid (filtC_bad h1)
    have Hr := Lib.hid (show rmB F N = false by unfold rmB; rw [h1]; rfl)
    clear h1
    go_enter Tryd.func14, Tryd.ntmps14
    go_wp2_with fail
    refine C1.out.mono ?_
    rintro e w2 ⟨rfl, b12⟩
    rw [H1.out]
    go_wp2
    go_ret
    exact ⟨ret_bool Hr.out.symm, b12⟩
  · have H1 := Lib.hid (filtC_ok h1)
    by_cases hz : N.size = 0
    · have ez : ((N.size : Int) == 0) = true := by rw [beq_iff_eq]; omega
      have Hr := Lib.hid (show rmB F N = false by unfold rmB; rw [h1, hz]; rfl)
      clear h1
      go_enter Tryd.func14, Tryd.ntmps14
      go_wp2_with fail
      refine C1.out.mono ?_
      rintro e w2 ⟨rfl, b12⟩
      rw [H1.out]
      go_wp2
      go_ret
      exact ⟨ret_bool Hr.out.symm, b12⟩
    · have ez : ((N.size : Int) == 0) = false := by rw [beq_eq_false_iff_ne]; omega
      have hN0 : 0 < N.size := by omega
      have sF := szd_size (filt_szd2 h1).1
      have hF0 := sF.1
      have hF1 := sF.2.1
      have nF := sF.2.2
      have nN : (lev N.data.toList).length ≤ 4294967281 := by
        have := lev_le N.data.toList
        have h2 : N.data.toList.length = N.size := rfl
        omega
      have Hr0 := Lib.hid (show rmB F N = (free N.data.toList && (!dol F.data.toList N.data.toList && mtL (lev F.data.toList) (lev N.data.toList))) by unfold rmB; rw [h1, decide_eq_true hN0]; rfl)
      have Hdol := Lib.hid (dol_at F N hF0 hN0)
      have hp0 : (0 : Int) < (N.size : Int) := by omega
      have hq0 : (0 : Int) < (F.size : Int) := by omega
      clear h1 sF hz
      go_enter Tryd.func14, Tryd.ntmps14
      go_wp2_with fail
      refine C1.out.mono ?_
      rintro e w2 ⟨rfl, b12⟩
      rw [H1.out]
      go_wp2
      go_loopw [6] (fun i wr => ∃ k : Nat, i = .int .i64 k ∧ k ≤ N.size ∧ Hid (free N.data.toList = free (N.data.toList.drop k)) ∧ Below w.heap.size w wr) (fun i _ => N.size - (intOf i).toNat)
      case atStart => exact ⟨0, rfl, by omega, Lib.hid (by rw [List.drop_zero]), b12⟩
      case round =>
        obtain ⟨k, rfl, hk, hv, b12⟩ := hrel
        by_cases hlt : k < N.size
        · have hat := data_at N hlt
          have g1 := byte_eq (b := N[k]) (c := 43) (x := 43) rfl
          have g2 := byte_eq (b := N[k]) (c := 35) (x := 35) rfl
          have g3 := byte_eq (b := N[k]) (c := 0) (x := 0) rfl
          by_cases e1 : N[k] = 43
          · have Hf := Lib.hid (show rmB F N = false by rw [Hr0.out, hv.out, free_hit hat (.inl e1)]; rfl)
            have f1 : (((N[k]).toNat : Int) == 43) = true := by rw [g1, e1]; rfl
            clear g1 g2 g3 hat e1
            go_wp2
            go_ret
            exact ⟨ret_bool Hf.out.symm, b12⟩
          · have f1 : (((N[k]).toNat : Int) == 43) = false := by rw [g1]; exact beq_eq_false_iff_ne.2 e1
            by_cases e2 : N[k] = 35
            · have Hf := Lib.hid (show rmB F N = false by rw [Hr0.out, hv.out, free_hit hat (.inr (.inl e2))]; rfl)
              have f2 : (((N[k]).toNat : Int) == 35) = true := by rw [g2, e2]; rfl
              clear g1 g2 g3 hat e1 e2
              go_wp2
              go_ret
              exact ⟨ret_bool Hf.out.symm, b12⟩
            · have f2 : (((N[k]).toNat : Int) == 35) = false := by rw [g2]; exact beq_eq_false_iff_ne.2 e2
              by_cases e3 : N[k] = 0
              · have Hf := Lib.hid (show rmB F N = false by rw [Hr0.out, hv.out, free_hit hat (.inr (.inr e3))]; rfl)
                have f3 : (((N[k]).toNat : Int) == 0) = true := by rw [g3, e3]; rfl
                clear g1 g2 g3 hat e1 e2 e3
                go_wp2
                go_ret
                exact ⟨ret_bool Hf.out.symm, b12⟩
              · have f3 : (((N[k]).toNat : Int) == 0) = false := by rw [g3]; exact beq_eq_false_iff_ne.2 e3
                have Hf := Lib.hid (hv.out.trans (free_pass hat e1 e2 e3))
                clear g1 g2 g3 hat e1 e2 e3
                go_wp2
                go_roundw
                case rel => exact ⟨k + 1, by go_num, by omega, Hf, b12⟩
                case measure => simp [intOf]; omega
        · have hfr : free N.data.toList = true := by
            rw [hv.out, List.drop_eq_nil_of_le (by have : N.data.toList.length = N.size := rfl; omega)]; rfl
          have Hr1 := Lib.hid (show rmB F N = (!dol F.data.toList N.data.toList && mtL (lev F.data.toList) (lev N.data.toList)) by rw [Hr0.out, hfr]; rfl)
          clear hfr hv
          obtain ⟨dv, hdv⟩ : ∃ dv, dol F.data.toList N.data.toList = dv := ⟨_, rfl⟩
          have hdd : (((N[0].toNat : Int) == 36) && (((F[0].toNat : Int) == 43) || ((F[0].toNat : Int) == 35))) = dv := by rw [← hdv]; exact Hdol.out.symm
          have Hr := Lib.hid (show rmB F N = (!dv && mtL (lev F.data.toList) (lev N.data.toList)) by rw [Hr1.out, hdv])
          clear Hr1 Hr0 Hdol hdv
          go_upto_region 9 with fail
          go_cut [53] (fun b X => b = .bool dv ∧ Below w.heap.size w X)
          case first =>
            cases q1 : ((N[0].toNat : Int) == 36)
            · rw [q1] at hdd
              subst hdd
              go_wp2_with fail
              go_meet
              exact ⟨rfl, b12⟩
            · cases q2 : ((F[0].toNat : Int) == 43)
              · cases q3 : ((F[0].toNat : Int) == 35)
                · rw [q1, q2, q3] at hdd
                  subst hdd
                  go_wp2_with fail
                  go_meet
                  exact ⟨rfl, b12⟩
                · rw [q1, q2, q3] at hdd
                  subst hdd
                  go_wp2_with fail
                  go_meet
                  exact ⟨rfl, b12⟩
              · rw [q1, q2] at hdd
                subst hdd
                go_wp2_with fail
                go_meet
                exact ⟨rfl, b12⟩
          case rest =>
            obtain ⟨rfl, b12⟩ := hcut
            clear hdd
            cases dv
            · have Hr : Hid (rmB F N = mtL (lev F.data.toList) (lev N.data.toList)) := Lib.hid (by rw [Hr.out]; rfl)
              go_wp2_with fail
              refine (reflevels_any F _ (by omega)).mono ?_
              rintro e w3 ⟨v3, rfl, ⟨g1, c1, rfl, hcap1, hg1, hc1⟩, b3⟩
              have Hc1 := Lib.hid hc1
              have b13 := b12.trans (b3.mono b12.size)
              clear hc1
              go_wp2_with fail
              refine (reflevels_any N _ (by omega)).mono ?_
              rintro e w4 ⟨v4, rfl, ⟨g2, c2, rfl, hcap2, hg2, hc2⟩, b4⟩
              have Hc2 := Lib.hid hc2
              have b14 := b13.trans (b4.mono b13.size)
              have Hd1 : Hid (∀ (k : Nat) x, (lev F.data.toList)[k]? = some x → w4.cell? ⟨g1, k, none⟩ = some (strV x)) := Lib.hid fun k x hx => (b4.cell (p := ⟨g1, k, none⟩) hg1).trans (Hc1.out k x hx)
              clear hc2 Hc1
              obtain ⟨A, hA⟩ : ∃ A, lev F.data.toList = A := ⟨_, rfl⟩
              obtain ⟨B, hB⟩ : ∃ B, lev N.data.toList = B := ⟨_, rfl⟩
              rw [hA] at Hd1 nF hcap1
              rw [hB] at Hc2 nN hcap2
              rw [hA, hB] at Hr ⊢
              clear hA hB
              obtain ⟨m, hm⟩ : ∃ m, A.length = m := ⟨_, rfl⟩
              obtain ⟨n, hn⟩ : ∃ n, B.length = n := ⟨_, rfl⟩
              rw [hm] at nF hcap1
              rw [hn] at nN hcap2
              rw [hm, hn]
              have Hm := Lib.hid hm
              have Hn := Lib.hid hn
              clear hm hn
              go_wp2
              go_loopw [9] (fun i wr => ∃ k : Nat, i = .int .i64 k ∧ k ≤ m ∧ k ≤ n ∧ Hid (mtL A B = mtL (A.drop k) (B.drop k)) ∧ Hid (∀ p, wr.cell? p = w4.cell? p) ∧ Below w.heap.size w wr) (fun i _ => m - (intOf i).toNat)
              case atStart => exact ⟨0, rfl, by omega, by omega, Lib.hid (by rw [List.drop_zero, List.drop_zero]), Lib.hid (fun _ => rfl), b14⟩
              case round =>
                obtain ⟨k, rfl, hk, hkn, hv, hcell, hbel⟩ := hrel
                by_cases hlt : k < m
                · obtain ⟨x, hx⟩ : ∃ x, A[k]? = some x := ⟨_, List.getElem?_eq_getElem (by rw [Hm.out]; exact hlt)⟩
                  have hcx := (hcell.out _).trans (Hd1.out k x hx)
                  obtain ⟨y, hy⟩ : ∃ y : ByteArray, (⟨x.toArray⟩ : ByteArray) = y := ⟨_, rfl⟩
                  have hyx : x = y.data.toList := by rw [← hy]
                  have hcy : wr.cell? ⟨g1, k, none⟩ = some (.string y) := by rw [hcx, ← hy]; rfl
                  have hN35 : (y.toList == [35]) = (y.data.toList == [35]) := by rw [ByteArray.toList_eq]
                  have hN43 : (y.toList == [43]) = (y.data.toList == [43]) := by rw [ByteArray.toList_eq]
                  rw [hyx] at hx
                  clear hcx hy hyx
                  cases h35 : y.data.toList == [35]
                  · have e35 : (y.toList == [35]) = false := hN35.trans h35
                    have hne : y.data.toList ≠ [35] := beq_eq_false_iff_ne.1 h35
                    by_cases hkn2 : k < n
                    · have hge : ¬ (n : Int) ≤ k := by omega
                      obtain ⟨z', hz⟩ : ∃ z, B[k]? = some z := ⟨_, List.getElem?_eq_getElem (by rw [Hn.out]; exact hkn2)⟩
                      have hcz := (hcell.out _).trans (Hc2.out k z' hz)
                      obtain ⟨z, hz'⟩ : ∃ z : ByteArray, (⟨z'.toArray⟩ : ByteArray) = z := ⟨_, rfl⟩
                      have hzz : z' = z.data.toList := by rw [← hz']
                      have hcz2 : wr.cell? ⟨g2, k, none⟩ = some (.string z) := by rw [hcz, ← hz']; rfl
                      rw [hzz] at hz
                      have hf := hv.out.trans (mtM_step hx hz hne)
                      clear hcz hz' hzz hx hz
                      cases h43 : y.data.toList == [43]
                      · have e43 : (y.toList == [43]) = false := hN43.trans h43
                        have e43' : (y.toList != [43]) = true := by unfold bne; rw [e43]; rfl
                        cases hyz : y.data.toList == z.data.toList
                        · have eyz : (y.toList == z.toList) = false := by rw [ByteArray.toList_eq, ByteArray.toList_eq]; exact hyz
                          have eyz' : (y.toList != z.toList) = true := by unfold bne; rw [eyz]; rfl
                          have Hf := Lib.hid (show mtL A B = false by rw [hf]; unfold one; rw [h43, hyz]; rfl)
                          clear hf h43 hyz h35 hne hN35 hN43
                          go_wp2
                          have hge3 : decide (n ≤ k) = false := decide_eq_false (by omega)
                          go_quiet (fail)
                          go_wp2
                          go_ret
                          exact ⟨ret_bool (by rw [Hr.out, Hf.out]), ⟨hbel.os, hbel.tape, hbel.output, hbel.size, hbel.block⟩⟩
                        · have eyz : (y.toList == z.toList) = true := by rw [ByteArray.toList_eq, ByteArray.toList_eq]; exact hyz
                          have eyz' : (y.toList != z.toList) = false := by unfold bne; rw [eyz]; rfl
                          have Hf := Lib.hid (show mtL A B = mtL (A.drop (k + 1)) (B.drop (k + 1)) by rw [hf]; unfold one; rw [h43, hyz]; rfl)
                          clear hf h43 hyz h35 hne hN35 hN43
                          go_wp2
                          have hge3 : decide (n ≤ k) = false := decide_eq_false (by omega)
                          go_quiet (fail)
                          go_wp2
                          go_roundw
                          case rel => exact ⟨k + 1, by go_num, by omega, by omega, Hf, Lib.hid (fun p => hcell.out p), ⟨hbel.os, hbel.tape, hbel.output, hbel.size, hbel.block⟩⟩
                          case measure => simp [intOf]; omega
                      · have hy43 : y = ⟨#[43]⟩ := ByteArray.ext (Array.toList_inj.1 (beq_iff_eq.1 h43))
                        have Hf := Lib.hid (show mtL A B = mtL (A.drop (k + 1)) (B.drop (k + 1)) by rw [hf]; unfold one; rw [h43]; rfl)
                        clear hf h43 h35 hne hN35 hN43 e35
                        subst hy43
                        go_wp2
                        have hge3 : decide (n ≤ k) = false := decide_eq_false (by omega)
                        go_quiet (fail)
                        go_wp2
                        go_roundw
                        case rel => exact ⟨k + 1, by go_num, by omega, by omega, Hf, Lib.hid (fun p => hcell.out p), ⟨hbel.os, hbel.tape, hbel.output, hbel.size, hbel.block⟩⟩
                        case measure => simp [intOf]; omega
                    · have hge : (n : Int) ≤ k := by omega
                      have Hf := Lib.hid (show mtL A B = false from hv.out.trans (mtM_short hx hne (by rw [Hn.out]; omega)))
                      clear hx h35 hne hN35 hN43
                      go_wp2
                      have hge3 : decide (n ≤ k) = true := decide_eq_true (by omega)
                      go_quiet (fail)
                      go_wp2
                      go_ret
                      exact ⟨ret_bool (by rw [Hr.out, Hf.out]), ⟨hbel.os, hbel.tape, hbel.output, hbel.size, hbel.block⟩⟩
                  · have e35 : (y.toList == [35]) = true := hN35.trans h35
                    have Hf := Lib.hid (show mtL A B = true from hv.out.trans (mtM_hash hx (beq_iff_eq.1 h35)))
                    clear hx h35 hN35 hN43
                    go_wp2
                    go_ret
                    exact ⟨ret_bool (by rw [Hr.out, Hf.out]), hbel⟩
                · obtain rfl : k = m := by omega
                  obtain ⟨b, hb⟩ : ∃ b, ((k : Int) == (n : Int)) = b := ⟨_, rfl⟩
                  have Hf := Lib.hid (show mtL A B = b by rw [hv.out, mtM_done Hm.out (by rw [Hn.out]; exact hkn), Hn.out]; exact hb)
                  go_wp2
                  go_ret
                  exact ⟨ret_bool (by rw [Hr.out, Hf.out]), hbel⟩
            · have Hf := Lib.hid (show rmB F N = false by rw [Hr.out]; rfl)
              go_wp2
              go_ret
              exact ⟨ret_bool Hf.out.symm, b12⟩
end Go.Proofs.YtichhppfdjkgkaaDoor
