/- The walk of the document's CheckFilter (layer 7). -/
import Derived.Test.YtdjiioidkgppjaaDoorTopicRef
namespace Go.Proofs.YtdjiioidkgppjaaDoor
set_option linter.unusedVariables false
open Go.RowKit Pl Go.Shelf

theorem refcheckfilter_any (s : ByteArray) (w : World) (hs : s.size ≤ 281474976710656) :
    Calls Tryd.prog 27 #[.string s] w fun e w' => e = .returned (.int .i64 (filtC s)) ∧ Below w.heap.size w w' := by
  cases ha : szd s
  · have Hz := Lib.hid (filt_szd ha)
    have Ha := Lib.hid ha
    clear ha
    go_enter Tryd.func27, Tryd.ntmps27
    go_wp2_with fail
    refine (refsized_any s _ hs).mono ?_
    rintro e w1 ⟨rfl, b1⟩
    rw [Ha.out]
    go_wp2
    go_ret
    exact ⟨ret_int (by rw [Hz.out]), b1⟩
  · have hz := filt_lev ha
    have hsz := szd_size ha
    have hs256 := hsz.2.1
    have Ha := Lib.hid ha
    have hpos := lev_pos s.data.toList
    have hn32 : (lev s.data.toList).length ≤ 32 := hsz.2.2
    have Hz := Lib.hid hz
    clear ha hz hsz
    go_enter Tryd.func27, Tryd.ntmps27
    go_wp2_with fail
    refine (refsized_any s _ hs).mono ?_
    rintro e w1 ⟨rfl, b1⟩
    rw [Ha.out]
    go_wp2_with fail
    refine (reflevels_any s _ (by omega)).mono ?_
    rintro e w2 ⟨v, rfl, ⟨g, cap, rfl, hcap, hg, hx⟩, b2⟩
    have Hc := Lib.hid hx
    have b3 := b1.trans (b2.mono b1.size)
    clear hx
    have hS : ∀ (k : Nat) x, (lev s.data.toList)[k]? = some x → x.length ≤ s.size := fun k x hx => lev_get_size hx
    obtain ⟨L, hL⟩ : ∃ L, lev s.data.toList = L := ⟨_, rfl⟩
    rw [hL] at hS
    have HS := Lib.hid hS
    clear hS
    rw [hL] at Hc Hz hcap hpos hn32 ⊢
    clear hL
    obtain ⟨n, hn⟩ : ∃ n, L.length = n := ⟨_, rfl⟩
    rw [hn] at hpos hn32 hcap ⊢
    have Hn := Lib.hid hn
    clear hn
    go_wp2
    go_loop [5, 6, 7] (fun i _ _ => ∃ k : Nat, i = .int .i64 k ∧ k ≤ n ∧ Hid (fok L = fok (L.drop k))) (fun i _ _ => n - (intOf i).toNat)
    case atStart => exact ⟨0, rfl, by omega, Lib.hid (by rw [List.drop_zero])⟩
    case round =>
      obtain ⟨k, rfl, hk, hv⟩ := hrel
      by_cases hlt : k < n
      · obtain ⟨x, hx⟩ : ∃ x, L[k]? = some x := ⟨_, List.getElem?_eq_getElem (by rw [Hn.out]; exact hlt)⟩
        have hcell := Hc.out k x hx
        have hsz := HS.out k x hx
        have hf := hv.out.trans (fok_at hx)
        rw [Hn.out] at hf
        clear hx
        obtain ⟨y, hy⟩ : ∃ y : ByteArray, (⟨x.toArray⟩ : ByteArray) = y := ⟨_, rfl⟩
        have hyx : x = y.data.toList := by rw [← hy]
        have hcell' : w2.cell? ⟨g, k, none⟩ = some (.string y) := by rw [hcell, ← hy]; rfl
        clear hcell hy
        rw [hyx] at hf hsz
        clear hyx x
        have hy256 : y.size ≤ 281474976710656 := Nat.le_trans hsz (by omega)
        clear hsz
        have hN := fun c : UInt8 => show (y.toList == [c]) = (y.data.toList == [c]) by rw [ByteArray.toList_eq]
        cases h43 : has 43 y.data.toList
        · cases h35 : has 35 y.data.toList
          · skip
            rw [lv_f h43 h35, Bool.true_and] at hf
            have H35 := Lib.hid h35
            have H43 := Lib.hid h43
            have Hf := Lib.hid hf
            clear h35 h43 hf hN
            go_wp2_with fail
            refine (refhas_any y 43 43 rfl _ hy256).mono ?_
            rintro e w3 ⟨rfl, rfl⟩
            rw [H43.out]
            go_wp2_with fail
            refine (refhas_any y 35 35 rfl _ hy256).mono ?_
            rintro e w3 ⟨rfl, rfl⟩
            rw [H35.out]
            go_wp2
            go_round
            case rel => exact ⟨k + 1, by go_num, by omega, Hf⟩
            case measure => simp [intOf]; omega
          · cases h1 : y.data.toList == [35]
            · have e1 : (y.toList == [35]) = false := (hN 35).trans h1
              have e2 : (y.toList != [35]) = true := by unfold bne; rw [e1]; rfl
              rw [lv_g h35 h1, Bool.false_and] at hf
              clear h1
              have H35 := Lib.hid h35
              have H43 := Lib.hid h43
              have Hf := Lib.hid hf
              clear h35 h43 hf hN
              go_wp2_with fail
              refine (refhas_any y 43 43 rfl _ hy256).mono ?_
              rintro e w3 ⟨rfl, rfl⟩
              rw [H43.out]
              go_wp2_with fail
              refine (refhas_any y 35 35 rfl _ hy256).mono ?_
              rintro e w3 ⟨rfl, rfl⟩
              rw [H35.out]
              go_wp2
              go_ret
              exact ⟨ret_int (by rw [Hz.out, Hf.out]; rfl), b3⟩
            · have e1 : (y.toList == [35]) = true := (hN 35).trans h1
              have e2 : (y.toList != [35]) = false := by unfold bne; rw [e1]; rfl
              have hl : y.data.toList.length ≤ 1 := by rw [beq_iff_eq.1 h1]; exact Nat.le_refl _
              by_cases hlast : k + 1 < n
              · have hlt2 : (k : Int) < (n : Int) - 1 := by omega
                rw [lv_a h35 hlast, Bool.false_and] at hf
                clear h1 hl
                have H35 := Lib.hid h35
                have H43 := Lib.hid h43
                have Hf := Lib.hid hf
                clear h35 h43 hf hN
                go_wp2_with fail
                refine (refhas_any y 43 43 rfl _ hy256).mono ?_
                rintro e w3 ⟨rfl, rfl⟩
                rw [H43.out]
                go_wp2_with fail
                refine (refhas_any y 35 35 rfl _ hy256).mono ?_
                rintro e w3 ⟨rfl, rfl⟩
                rw [H35.out]
                go_wp2
                go_ret
                exact ⟨ret_int (by rw [Hz.out, Hf.out]; rfl), b3⟩
              · have hlt2 : ¬ (k : Int) < (n : Int) - 1 := by omega
                rw [lv_c h35 hl (by omega), Bool.true_and] at hf
                clear h1 hl
                have H35 := Lib.hid h35
                have H43 := Lib.hid h43
                have Hf := Lib.hid hf
                clear h35 h43 hf hN
                go_wp2_with fail
                refine (refhas_any y 43 43 rfl _ hy256).mono ?_
                rintro e w3 ⟨rfl, rfl⟩
                rw [H43.out]
                go_wp2_with fail
                refine (refhas_any y 35 35 rfl _ hy256).mono ?_
                rintro e w3 ⟨rfl, rfl⟩
                rw [H35.out]
                go_wp2
                go_round
                case rel => exact ⟨k + 1, by go_num, by omega, Hf⟩
                case measure => simp [intOf]; omega
        · cases h1 : y.data.toList == [43]
          · have e1 : (y.toList == [43]) = false := (hN 43).trans h1
            have e2 : (y.toList != [43]) = true := by unfold bne; rw [e1]; rfl
            obtain ⟨b35, h35⟩ : ∃ b, has 35 y.data.toList = b := ⟨_, rfl⟩
            rw [lv_h h43 h1, Bool.false_and] at hf
            clear h1
            have H35 := Lib.hid h35
            have H43 := Lib.hid h43
            have Hf := Lib.hid hf
            clear h35 h43 hf hN
            go_wp2_with fail
            refine (refhas_any y 43 43 rfl _ hy256).mono ?_
            rintro e w3 ⟨rfl, rfl⟩
            rw [H43.out]
            go_wp2_with fail
            refine (refhas_any y 35 35 rfl _ hy256).mono ?_
            rintro e w3 ⟨rfl, rfl⟩
            rw [H35.out]
            go_wp2
            go_ret
            exact ⟨ret_int (by rw [Hz.out, Hf.out]; rfl), b3⟩
          · have e1 : (y.toList == [43]) = true := (hN 43).trans h1
            have e2 : (y.toList != [43]) = false := by unfold bne; rw [e1]; rfl
            have h35 : has 35 y.data.toList = false := by rw [beq_iff_eq.1 h1]; decide
            have hl : y.data.toList.length ≤ 1 := by rw [beq_iff_eq.1 h1]; exact Nat.le_refl _
            rw [lv_e h43 hl, Bool.true_and] at hf
            clear h1 hl
            have H35 := Lib.hid h35
            have H43 := Lib.hid h43
            have Hf := Lib.hid hf
            clear h35 h43 hf hN
            go_wp2_with fail
            refine (refhas_any y 43 43 rfl _ hy256).mono ?_
            rintro e w3 ⟨rfl, rfl⟩
            rw [H43.out]
            go_wp2_with fail
            refine (refhas_any y 35 35 rfl _ hy256).mono ?_
            rintro e w3 ⟨rfl, rfl⟩
            rw [H35.out]
            go_wp2
            go_round
            case rel => exact ⟨k + 1, by go_num, by omega, Hf⟩
            case measure => simp [intOf]; omega
      · have hf := hv.out.trans (fok_end (by rw [Hn.out]; omega))
        have Hf := Lib.hid hf
        clear hf
        go_wp2
        go_ret
        exact ⟨ret_int (by rw [Hz.out, Hf.out]; rfl), b3⟩
end Go.Proofs.YtdjiioidkgppjaaDoor
