/- The walk of package topic's CheckFilter. -/
import Derived.Test.YtdjiioidkgppjaaDoorTopic
import Derived.Test.YtdjiioidkgppjaaDoorFokPlain
namespace Go.Proofs.YtdjiioidkgppjaaDoor
set_option linter.unusedVariables false
open Go.RowKit Pl Go.Shelf

theorem checkfilter_any (s : ByteArray) (w : World) (hs : s.size ≤ 281474976710656) (hT : Tabs w) :
    Calls Tryd.prog 25 #[.string s] w fun e w' => e = .returned (.int .u8 (filtC s)) ∧ Below w.heap.size w w' := by
  have HT := Lib.hid hT
  clear hT
  cases ha : szd s
  · have Hz := Lib.hid (filt_szd ha)
    have Ha := Lib.hid ha
    clear ha
    go_enter Tryd.func25, Tryd.ntmps25
    go_wp2_with fail
    refine (sized_any s _ hs HT.out).mono ?_
    rintro e w1 ⟨rfl, b1⟩
    rw [Ha.out]
    go_wp2
    go_ret
    exact ⟨ret_int (by rw [Hz.out]), b1⟩
  · have hz := filt_lev ha
    have hsz := szd_size ha
    have hs256 := hsz.2.1
    have Ha := Lib.hid ha
    have hpos := lev_pos s.data.toList
    obtain ⟨L, hL⟩ : ∃ L, lev s.data.toList = L := ⟨_, rfl⟩
    rw [hL] at hz hpos
    have hn32 : L.length ≤ 32 := by rw [← hL]; exact hsz.2.2
    obtain ⟨n, hn⟩ : ∃ n, L.length = n := ⟨_, rfl⟩
    rw [hn] at hpos hn32
    have Hn := Lib.hid hn
    have HL := Lib.hid hL
    have Hz := Lib.hid hz
    clear ha hz hL hsz hn
    go_enter Tryd.func25, Tryd.ntmps25
    go_wp2_with fail
    refine (sized_any s _ hs HT.out).mono ?_
    rintro e w1 ⟨rfl, b1⟩
    rw [Ha.out]
    go_wp2_with fail
    refine (levels_any s _ (by omega)).mono ?_
    rintro e w2 ⟨rfl, hw2⟩
    rw [HL.out, Hn.out]
    rw [HL.out] at hw2
    have hc0 : ∀ k x, L[k]? = some x → w2.cell? ⟨w1.heap.size, k, none⟩ = some (strV x) := by
      intro k x hx
      subst hw2
      rw [World.cell?_alloc_mark]
      simp [hx]
    have Hc := Lib.hid hc0
    have b2 : Below w.heap.size w w2 := by subst hw2; exact b1.alloc b1.size _
    clear hw2 hc0
    obtain ⟨g, hg⟩ : ∃ g, w1.heap.size = g := ⟨_, rfl⟩
    rw [hg] at Hc ⊢
    clear hg
    go_wp2
    go_loop [13] (fun i => ∃ k : Nat, i = .int .i64 k ∧ k ≤ n ∧ Hid (fok L = fok (L.drop k))) (fun i => n - (intOf i).toNat)
    case atStart => exact ⟨0, rfl, by omega, Lib.hid (by rw [List.drop_zero])⟩
    case round =>
      obtain ⟨k, rfl, hk, hv⟩ := hrel
      by_cases hlt : k < n
      · obtain ⟨x, hx⟩ : ∃ x, L[k]? = some x := ⟨_, List.getElem?_eq_getElem (by rw [Hn.out]; exact hlt)⟩
        have hcell := Hc.out k x hx
        have hf := hv.out.trans (fok_at hx)
        rw [Hn.out] at hf
        clear hx
        obtain ⟨y, hy⟩ : ∃ y : ByteArray, (⟨x.toArray⟩ : ByteArray) = y := ⟨_, rfl⟩
        have hyx : x = y.data.toList := by rw [← hy]
        have hcell' : w2.cell? ⟨g, k, none⟩ = some (.string y) := by rw [hcell, ← hy]; rfl
        clear hcell hy
        rw [hyx] at hf
        clear hyx x
        have hys : y.data.toList.length = y.size := rfl
        cases h35 : has 35 y.data.toList
        · cases h43 : has 43 y.data.toList
          · rw [lv_f h43 h35, Bool.true_and] at hf
            have H35 := Lib.hid h35
            have H43 := Lib.hid h43
            have Hf := Lib.hid hf
            clear h35 h43 hf hys
            go_wp2_with fail
            refine (contains_any y 35 _).mono ?_
            rintro e w3 ⟨rfl, rfl⟩
            rw [H35.out]
            go_wp2_with fail
            refine (contains_any y 43 _).mono ?_
            rintro e w3 ⟨rfl, rfl⟩
            rw [H43.out]
            go_wp2
            go_round
            case rel => exact ⟨k + 1, by go_num, by omega, Hf⟩
            case measure => simp [intOf]; omega
          · by_cases hl : y.size ≤ 1
            · rw [lv_e h43 hl, Bool.true_and] at hf
              have H35 := Lib.hid h35
              have H43 := Lib.hid h43
              have Hf := Lib.hid hf
              clear h35 h43 hf hys
              go_wp2_with fail
              refine (contains_any y 35 _).mono ?_
              rintro e w3 ⟨rfl, rfl⟩
              rw [H35.out]
              go_wp2_with fail
              refine (contains_any y 43 _).mono ?_
              rintro e w3 ⟨rfl, rfl⟩
              rw [H43.out]
              go_wp2
              go_round
              case rel => exact ⟨k + 1, by go_num, by omega, Hf⟩
              case measure => simp [intOf]; omega
            · rw [lv_d h43 hl, Bool.false_and] at hf
              have H35 := Lib.hid h35
              have H43 := Lib.hid h43
              have Hf := Lib.hid hf
              clear h35 h43 hf hys
              go_wp2_with fail
              refine (contains_any y 35 _).mono ?_
              rintro e w3 ⟨rfl, rfl⟩
              rw [H35.out]
              go_wp2_with fail
              refine (contains_any y 43 _).mono ?_
              rintro e w3 ⟨rfl, rfl⟩
              rw [H43.out]
              go_wp2
              go_ret
              exact ⟨ret_int (by rw [Hz.out, Hf.out]; rfl), b2⟩
        · by_cases hlast : k + 1 < n
          · rw [lv_a h35 hlast, Bool.false_and] at hf
            have H35 := Lib.hid h35
            have Hf := Lib.hid hf
            have hlt2 : (k : Int) < (n : Int) - 1 := by omega
            clear h35 hf hys
            go_wp2_with fail
            refine (contains_any y 35 _).mono ?_
            rintro e w3 ⟨rfl, rfl⟩
            rw [H35.out]
            go_wp2
            go_ret
            exact ⟨ret_int (by rw [Hz.out, Hf.out]; rfl), b2⟩
          · have hlt2 : ¬ (k : Int) < (n : Int) - 1 := by omega
            by_cases hl : y.size ≤ 1
            · rw [lv_c h35 hl (by omega), Bool.true_and] at hf
              have H35 := Lib.hid h35
              have Hf := Lib.hid hf
              clear h35 hf hys
              go_wp2_with fail
              refine (contains_any y 35 _).mono ?_
              rintro e w3 ⟨rfl, rfl⟩
              rw [H35.out]
              go_wp2
              go_round
              case rel => exact ⟨k + 1, by go_num, by omega, Hf⟩
              case measure => simp [intOf]; omega
            · rw [lv_b h35 hl, Bool.false_and] at hf
              have H35 := Lib.hid h35
              have Hf := Lib.hid hf
              clear h35 hf hys
              go_wp2_with fail
              refine (contains_any y 35 _).mono ?_
              rintro e w3 ⟨rfl, rfl⟩
              rw [H35.out]
              go_wp2
              go_ret
              exact ⟨ret_int (by rw [Hz.out, Hf.out]; rfl), b2⟩
      · have hf := hv.out.trans (fok_end (by rw [Hn.out]; omega))
        have Hf := Lib.hid hf
        clear hf
        go_wp2
        go_ret
        exact ⟨ret_int (by rw [Hz.out, Hf.out]; rfl), b2⟩
end Go.Proofs.YtdjiioidkgppjaaDoor
