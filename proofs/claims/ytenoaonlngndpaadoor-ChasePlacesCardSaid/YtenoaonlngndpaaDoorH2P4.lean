/- Parts of the proof, joined: Topic, CheckFilter, TopicMatch, Match, Remap, Remap2, Good. -/
import Derived.Test.YtenoaonlngndpaaDoorH2P3
import Derived.Test.YtenoaonlngndpaaDoorH2P1
import Derived.Deep.QuietTactic
import Derived.BigQuiet
import Derived.Test.YtenoaonlngndpaaDoorH2P2
import Derived.WalkSpells
import Derived.WalkLawsBesides
/- The walks of package topic's functions: sized, CheckName, CheckFilter, Levels, Join. -/
namespace Go.Proofs.YtenoaonlngndpaaDoor
set_option linter.unusedVariables false
open Go.RowKit Pl Go.Shelf

theorem split_one (s : ByteArray) (w : World) (hs : s.size < 4294967281) :
    Calls Tryd.prog 53 #[.string s, .string ⟨#[47]⟩] w fun e w' =>
      e = .returned (.slice (some ⟨w.heap.size, 0, none⟩) (lev s.data.toList).length (lev s.data.toList).length) ∧ w' = w.alloc (.cells ((lev s.data.toList).map strV).toArray 9) := by
  have h1 : 1 ≤ (⟨#[47]⟩ : ByteArray).size := by decide
  have hle := Lib.countB_le ⟨#[47]⟩ h1 s.size s (Nat.le_refl _)
  have hlen := Lib.splitB_all ⟨#[47]⟩ h1 0 _ s rfl
  have c := Any.strings_genSplit_core (P := Tryd.prog) (ρ := Tryd.lays146_ren) { Tryd.lays146 with } (by kernel_rfl) s ⟨#[47]⟩ 0 (-1) (Lib.countB s ⟨#[47]⟩ + 1) w hs h1 (Nat.zero_le _)
    (fun x c _ => (Any.strings_Index_one { Tryd.lays146 with } x 47 _).mono fun e w' ⟨he, hw⟩ => ⟨by rw [he]; exact congrArg (fun n => Ending.returned (.int .i64 n)) (Lib.index_one x.data.toList 47).symm, hw⟩)
    ((Any.strings_Count_one { Tryd.lays146 with } s 47 w).mono fun e w' ⟨he, hw⟩ => ⟨by rw [he]; exact congrArg (fun n : Nat => Ending.returned (.int .i64 n)) (Lib.count_one 47 s.data.toList).symm, hw⟩)
    (by decide) (by decide) (by rw [if_pos (by decide)]; omega)
  rw [Nat.add_sub_cancel, hlen] at c
  have e2 : Lib.cellsOf (Lib.splitB ⟨#[47]⟩ 0 (Lib.countB s ⟨#[47]⟩) s) (Lib.countB s ⟨#[47]⟩ + 1) = ((lev s.data.toList).map strV).toArray := by
    rw [← hlen, Lib.cellsOf_full]
    have h := Lib.splitB_data ⟨#[47]⟩ 0 (Lib.countB s ⟨#[47]⟩) s
    have h2 := splitK_lev s.data.toList
    have h3 : (Lib.splitB ⟨#[47]⟩ 0 (Lib.countB s ⟨#[47]⟩) s).map (·.data.toList) = lev s.data.toList := h.trans h2
    rw [← h3, List.map_map]
    rfl
  have e1 : Lib.countB s ⟨#[47]⟩ + 1 = (lev s.data.toList).length := by
    rw [lev_len]
    exact congrArg (· + 1) (Lib.count_one 47 s.data.toList)
  rw [e2] at c
  rw [e1] at c
  have c' : Calls Tryd.prog 66 #[.string s, .string ⟨#[47]⟩, .int .i64 0, .int .i64 (-1)] w fun e w' =>
      e = .returned (.slice (some ⟨w.heap.size, 0, none⟩) (lev s.data.toList).length (lev s.data.toList).length) ∧ w' = w.alloc (.cells ((lev s.data.toList).map strV).toArray 9) := c
  have C := Lib.hid c'
  clear c c' e1 e2 hlen hle
  go_enter Tryd.func53, Tryd.ntmps53
  go_wp2_with fail
  refine C.out.mono ?_
  rintro e w' ⟨rfl, rfl⟩
  go_wp2
  go_ret
  exact ⟨rfl, rfl⟩

theorem levels_any (s : ByteArray) (w : World) (hs : s.size < 4294967281) :
    Calls Tryd.prog 34 #[.string s] w fun e w' =>
      e = .returned (.slice (some ⟨w.heap.size, 0, none⟩) (lev s.data.toList).length (lev s.data.toList).length) ∧ w' = w.alloc (.cells ((lev s.data.toList).map strV).toArray 9) := by
  go_enter Tryd.func34, Tryd.ntmps34
  go_wp2_with fail
  refine (split_one s _ hs).mono ?_
  rintro e w' ⟨rfl, rfl⟩
  go_wp2
  go_ret
  exact ⟨rfl, rfl⟩

theorem contains_any (s : ByteArray) (c : UInt8) (w : World) :
    Calls Tryd.prog 31 #[.string s, .string ⟨#[c]⟩] w fun e w' => e = .returned (.bool (has c s.data.toList)) ∧ w = w' :=
  (Tryd.strings_Contains_one s c w).mono fun e w' ⟨he, hw⟩ => ⟨by rw [he, ← contains_has]; unfold Lib.contains; rw [Lib.index_one], hw.symm⟩

theorem count_any (s : ByteArray) (w : World) :
    Calls Tryd.prog 49 #[.string s, .string ⟨#[47]⟩] w fun e w' => e = .returned (.int .i64 (s.data.toList.count 47 : Nat)) ∧ w = w' :=
  (Tryd.strings_Count_one s 47 w).mono fun e w' ⟨he, hw⟩ => ⟨by rw [he]; rfl, hw.symm⟩

theorem sized_any (s : ByteArray) (w : World) (hs : s.size ≤ 281474976710656) (hT : Tabs w) :
    Calls Tryd.prog 30 #[.string s] w fun e w' => e = .returned (.bool (szd s)) ∧ Below w.heap.size w w' := by
  obtain ⟨fa, fb, hf⟩ : ∃ fa fb, flt s s.size 0 = (fa, fb) := ⟨_, _, rfl⟩
  have Hf := Lib.hid hf
  have HT := Lib.hid hT
  cases fb
  · by_cases h0 : s.size = 0
    · have hz := Lib.hid (show szd s = false by unfold szd; rw [hf]; simp [h0])
      have he : s = ⟨#[]⟩ := ByteArray.ext (Array.eq_empty_of_size_eq_zero h0)
      have HE := Lib.hid he
      have hemp : s.toList.isEmpty = true := by rw [he, ByteArray.toList_eq]; rfl
      clear hf hT he h0
      go_enter Tryd.func30, Tryd.ntmps30
      go_wp2_with fail
      refine (fault_any s _ hs HT.out).mono ?_
      rintro e w1 ⟨rfl, b1⟩
      rw [Hf.out]
      go_wp2
      go_ret
      exact ⟨ret_bool hz.out.symm, b1⟩
    · have hemp : s.toList.isEmpty = false := by
        rw [ByteArray.toList_eq, List.isEmpty_eq_false_iff]
        intro hc
        exact h0 (congrArg List.length hc)
      have hpos : 0 < s.size := by omega
      by_cases h256 : s.size ≤ 256
      · have hl := lev_len s.data.toList
        obtain ⟨n, hn⟩ : ∃ n, s.data.toList.count 47 = n := ⟨_, rfl⟩
        rw [hn] at hl
        have hz := Lib.hid (show szd s = decide ((n : Int) < 32) by
          unfold szd
          rw [hf, hl]
          have : decide (n + 1 ≤ 32) = decide ((n : Int) < 32) := by congr 1; rw [eq_iff_iff]; omega
          rw [decide_eq_true hpos, decide_eq_true h256, this]
          rfl)
        have Hn := Lib.hid hn
        clear hf hT hl hn
        go_enter Tryd.func30, Tryd.ntmps30
        go_wp2_with fail
        refine (fault_any s _ hs HT.out).mono ?_
        rintro e w1 ⟨rfl, b1⟩
        rw [Hf.out]
        go_wp2_with fail
        refine (count_any s _).mono ?_
        rintro e w2 ⟨rfl, rfl⟩
        rw [Hn.out]
        go_wp2
        go_ret
        exact ⟨ret_bool hz.out.symm, b1⟩
      · have hz := Lib.hid (show szd s = false by unfold szd; rw [hf]; simp [h256])
        clear hf hT
        go_enter Tryd.func30, Tryd.ntmps30
        go_wp2_with fail
        refine (fault_any s _ hs HT.out).mono ?_
        rintro e w1 ⟨rfl, b1⟩
        rw [Hf.out]
        go_wp2
        go_ret
        exact ⟨ret_bool hz.out.symm, b1⟩
  · have hz := Lib.hid (show szd s = false by unfold szd; rw [hf]; simp)
    clear hf hT
    go_enter Tryd.func30, Tryd.ntmps30
    go_wp2_with fail
    refine (fault_any s _ hs HT.out).mono ?_
    rintro e w1 ⟨rfl, b1⟩
    rw [Hf.out]
    go_wp2
    go_ret
    exact ⟨ret_bool hz.out.symm, b1⟩

theorem checkname_any (s : ByteArray) (w : World) (hs : s.size ≤ 281474976710656) (hT : Tabs w) :
    Calls Tryd.prog 13 #[.string s] w fun e w' => e = .returned (.int .u8 (nameC s)) ∧ Below w.heap.size w w' := by
  have HT := Lib.hid hT
  clear hT
  obtain ⟨a, ha⟩ : ∃ a, szd s = a := ⟨_, rfl⟩
  obtain ⟨b, hb⟩ : ∃ b, has 43 s.data.toList = b := ⟨_, rfl⟩
  obtain ⟨c, hc⟩ : ∃ c, has 35 s.data.toList = c := ⟨_, rfl⟩
  have hz : nameC s = if a && (!b && !c) then 0 else 144 := by unfold nameC nameB; rw [ha, hb, hc]
  have Ha := Lib.hid ha
  have Hb := Lib.hid hb
  have Hc := Lib.hid hc
  have Hz := Lib.hid hz
  clear ha hb hc hz
  cases a
  · go_enter Tryd.func13, Tryd.ntmps13
    go_wp2_with fail
    refine (sized_any s _ hs HT.out).mono ?_
    rintro e w1 ⟨rfl, b1⟩
    rw [Ha.out]
    go_wp2
    go_ret
    exact ⟨ret_int (by rw [Hz.out]; rfl), b1⟩
  · cases b
    · cases c
      all_goals
        go_enter Tryd.func13, Tryd.ntmps13
        go_wp2_with fail
        refine (sized_any s _ hs HT.out).mono ?_
        rintro e w1 ⟨rfl, b1⟩
        rw [Ha.out]
        go_wp2_with fail
        refine (contains_any s 43 _).mono ?_
        rintro e w2 ⟨rfl, rfl⟩
        rw [Hb.out]
        go_wp2_with fail
        refine (contains_any s 35 _).mono ?_
        rintro e w2 ⟨rfl, rfl⟩
        rw [Hc.out]
        go_wp2
        go_ret
        exact ⟨ret_int (by rw [Hz.out]; rfl), b1⟩
    · go_enter Tryd.func13, Tryd.ntmps13
      go_wp2_with fail
      refine (sized_any s _ hs HT.out).mono ?_
      rintro e w1 ⟨rfl, b1⟩
      rw [Ha.out]
      go_wp2_with fail
      refine (contains_any s 43 _).mono ?_
      rintro e w2 ⟨rfl, rfl⟩
      rw [Hb.out]
      go_wp2
      go_ret
      exact ⟨ret_int (by rw [Hz.out]; rfl), b1⟩
end Go.Proofs.YtenoaonlngndpaaDoor

/- The walk of package topic's CheckFilter. -/
namespace Go.Proofs.YtenoaonlngndpaaDoor
set_option linter.unusedVariables false
open Go.RowKit Pl Go.Shelf

theorem checkfilter_any (s : ByteArray) (w : World) (hs : s.size ≤ 281474976710656) (hT : Tabs w) :
    Calls Tryd.prog 33 #[.string s] w fun e w' => e = .returned (.int .u8 (filtC s)) ∧ Below w.heap.size w w' := by
  have HT := Lib.hid hT
  clear hT
  cases ha : szd s
  · have Hz := Lib.hid (filt_szd ha)
    have Ha := Lib.hid ha
    clear ha
    go_enter Tryd.func33, Tryd.ntmps33
    go_wp2_with fail
    refine (sized_any s _ hs HT.out).mono ?_
    rintro e w1 ⟨rfl, b1⟩
    rw [Ha.out]
    go_wp2
    go_ret
    exact ⟨ret_int (by rw [Hz.out]), b1⟩
  · have hz := filt_lev ha
    have hsz := szd_size ha
    have hs256 := hsz.2.1
    have Ha := Lib.hid ha
    have hpos := lev_pos s.data.toList
    obtain ⟨L, hL⟩ : ∃ L, lev s.data.toList = L := ⟨_, rfl⟩
    rw [hL] at hz hpos
    have hn32 : L.length ≤ 32 := by rw [← hL]; exact hsz.2.2
    obtain ⟨n, hn⟩ : ∃ n, L.length = n := ⟨_, rfl⟩
    rw [hn] at hpos hn32
    have Hn := Lib.hid hn
    have HL := Lib.hid hL
    have Hz := Lib.hid hz
    clear ha hz hL hsz hn
    go_enter Tryd.func33, Tryd.ntmps33
    go_wp2_with fail
    refine (sized_any s _ hs HT.out).mono ?_
    rintro e w1 ⟨rfl, b1⟩
    rw [Ha.out]
    go_wp2_with fail
    refine (levels_any s _ (by omega)).mono ?_
    rintro e w2 ⟨rfl, hw2⟩
    rw [HL.out, Hn.out]
    rw [HL.out] at hw2
    have hc0 : ∀ k x, L[k]? = some x → w2.cell? ⟨w1.heap.size, k, none⟩ = some (strV x) := by
      intro k x hx
      subst hw2
      rw [World.cell?_alloc_mark]
      simp [hx]
    have Hc := Lib.hid hc0
    have b2 : Below w.heap.size w w2 := by subst hw2; exact b1.alloc b1.size _
    clear hw2 hc0
    obtain ⟨g, hg⟩ : ∃ g, w1.heap.size = g := ⟨_, rfl⟩
    rw [hg] at Hc ⊢
    clear hg
    go_wp2
    go_loop [13] (fun i => ∃ k : Nat, i = .int .i64 k ∧ k ≤ n ∧ Hid (fok L = fok (L.drop k))) (fun i => n - (intOf i).toNat)
    case atStart => exact ⟨0, rfl, by omega, Lib.hid (by rw [List.drop_zero])⟩
    case round =>
      obtain ⟨k, rfl, hk, hv⟩ := hrel
      by_cases hlt : k < n
      · obtain ⟨x, hx⟩ : ∃ x, L[k]? = some x := ⟨_, List.getElem?_eq_getElem (by rw [Hn.out]; exact hlt)⟩
        have hcell := Hc.out k x hx
        have hf := hv.out.trans (fok_at hx)
        rw [Hn.out] at hf
        clear hx
        obtain ⟨y, hy⟩ : ∃ y : ByteArray, (⟨x.toArray⟩ : ByteArray) = y := ⟨_, rfl⟩
        have hyx : x = y.data.toList := by rw [← hy]
        have hcell' : w2.cell? ⟨g, k, none⟩ = some (.string y) := by rw [hcell, ← hy]; rfl
        clear hcell hy
        rw [hyx] at hf
        clear hyx x
        have hys : y.data.toList.length = y.size := rfl
        cases h35 : has 35 y.data.toList
        · cases h43 : has 43 y.data.toList
          · rw [lv_f h43 h35, Bool.true_and] at hf
            have H35 := Lib.hid h35
            have H43 := Lib.hid h43
            have Hf := Lib.hid hf
            clear h35 h43 hf hys
            go_wp2_with fail
            refine (contains_any y 35 _).mono ?_
            rintro e w3 ⟨rfl, rfl⟩
            rw [H35.out]
            go_wp2_with fail
            refine (contains_any y 43 _).mono ?_
            rintro e w3 ⟨rfl, rfl⟩
            rw [H43.out]
            go_wp2
            go_round
            case rel => exact ⟨k + 1, by go_num, by omega, Hf⟩
            case measure => simp [intOf]; omega
          · by_cases hl : y.size ≤ 1
            · rw [lv_e h43 hl, Bool.true_and] at hf
              have H35 := Lib.hid h35
              have H43 := Lib.hid h43
              have Hf := Lib.hid hf
              clear h35 h43 hf hys
              go_wp2_with fail
              refine (contains_any y 35 _).mono ?_
              rintro e w3 ⟨rfl, rfl⟩
              rw [H35.out]
              go_wp2_with fail
              refine (contains_any y 43 _).mono ?_
              rintro e w3 ⟨rfl, rfl⟩
              rw [H43.out]
              go_wp2
              go_round
              case rel => exact ⟨k + 1, by go_num, by omega, Hf⟩
              case measure => simp [intOf]; omega
            · rw [lv_d h43 hl, Bool.false_and] at hf
              have H35 := Lib.hid h35
              have H43 := Lib.hid h43
              have Hf := Lib.hid hf
              clear h35 h43 hf hys
              go_wp2_with fail
              refine (contains_any y 35 _).mono ?_
              rintro e w3 ⟨rfl, rfl⟩
              rw [H35.out]
              go_wp2_with fail
              refine (contains_any y 43 _).mono ?_
              rintro e w3 ⟨rfl, rfl⟩
              rw [H43.out]
              go_wp2
              go_ret
              exact ⟨ret_int (by rw [Hz.out, Hf.out]; rfl), b2⟩
        · by_cases hlast : k + 1 < n
          · rw [lv_a h35 hlast, Bool.false_and] at hf
            have H35 := Lib.hid h35
            have Hf := Lib.hid hf
            have hlt2 : (k : Int) < (n : Int) - 1 := by omega
            clear h35 hf hys
            go_wp2_with fail
            refine (contains_any y 35 _).mono ?_
            rintro e w3 ⟨rfl, rfl⟩
            rw [H35.out]
            go_wp2
            go_ret
            exact ⟨ret_int (by rw [Hz.out, Hf.out]; rfl), b2⟩
          · have hlt2 : ¬ (k : Int) < (n : Int) - 1 := by omega
            by_cases hl : y.size ≤ 1
            · rw [lv_c h35 hl (by omega), Bool.true_and] at hf
              have H35 := Lib.hid h35
              have Hf := Lib.hid hf
              clear h35 hf hys
              go_wp2_with fail
              refine (contains_any y 35 _).mono ?_
              rintro e w3 ⟨rfl, rfl⟩
              rw [H35.out]
              go_wp2
              go_round
              case rel => exact ⟨k + 1, by go_num, by omega, Hf⟩
              case measure => simp [intOf]; omega
            · rw [lv_b h35 hl, Bool.false_and] at hf
              have H35 := Lib.hid h35
              have Hf := Lib.hid hf
              clear h35 hf hys
              go_wp2_with fail
              refine (contains_any y 35 _).mono ?_
              rintro e w3 ⟨rfl, rfl⟩
              rw [H35.out]
              go_wp2
              go_ret
              exact ⟨ret_int (by rw [Hz.out, Hf.out]; rfl), b2⟩
      · have hf := hv.out.trans (fok_end (by rw [Hn.out]; omega))
        have Hf := Lib.hid hf
        clear hf
        go_wp2
        go_ret
        exact ⟨ret_int (by rw [Hz.out, Hf.out]; rfl), b2⟩
end Go.Proofs.YtenoaonlngndpaaDoor

/- The walk of slices.EqualFunc as package topic's Match calls it. -/
namespace Go.Proofs.YtenoaonlngndpaaDoor
set_option linter.unusedVariables false
open Go.RowKit Pl Go.Shelf

theorem eqone_any (x y : ByteArray) (w : World) :
    Calls Tryd.prog 36 #[.string x, .string y] w fun e w' => e = .returned (.bool (one x.data.toList y.data.toList)) ∧ w = w' := by
  cases h : x.data.toList == [43]
  · have e1 : (x.toList == [43]) = false := by rw [ByteArray.toList_eq]; exact h
    obtain ⟨b, hb⟩ : ∃ b, (x.data.toList == y.data.toList) = b := ⟨_, rfl⟩
    have e2 : (x.toList == y.toList) = b := by rw [ByteArray.toList_eq, ByteArray.toList_eq]; exact hb
    have hr := Lib.hid (show one x.data.toList y.data.toList = b by unfold one; rw [h, hb]; rfl)
    clear h hb
    cases b
    all_goals
      go_enter Tryd.func36, Tryd.ntmps36
      go_wp2
      go_ret
      exact ⟨ret_bool hr.out.symm, rfl⟩
  · have e1 : (x.toList == [43]) = true := by rw [ByteArray.toList_eq]; exact h
    have hr := Lib.hid (show one x.data.toList y.data.toList = true by unfold one; rw [h]; rfl)
    clear h
    go_enter Tryd.func36, Tryd.ntmps36
    go_wp2
    go_ret
    exact ⟨ret_bool hr.out.symm, rfl⟩

theorem Pl.eqB_at {F N : List Bs} {k : Nat} {x y : Bs} (h1 : F[k]? = some x) (h2 : N[k]? = some y) : eqB (F.drop k) (N.drop k) = (one x y && eqB (F.drop (k + 1)) (N.drop (k + 1))) := by
  obtain ⟨hk, hx⟩ := List.getElem?_eq_some_iff.1 h1
  obtain ⟨hk2, hx2⟩ := List.getElem?_eq_some_iff.1 h2
  rw [List.drop_eq_getElem_cons hk, hx, List.drop_eq_getElem_cons hk2, hx2]
  rfl
theorem Pl.eqB_end {F N : List Bs} {k : Nat} (h : F.length ≤ k) : eqB (F.drop k) (N.drop k) = true := by
  rw [List.drop_eq_nil_of_le h]; rfl

set_option maxHeartbeats 400000 in
theorem equalfunc_any (n g1 g2 c1 c2 : Nat) (F N : List Bs) (w : World) (hF : F.length = n) (hN : N.length = n) (hn : n ≤ 140737488351232)
    (h1 : ∀ (k : Nat) x, F[k]? = some x → w.cell? ⟨g1, k, none⟩ = some (strV x)) (h2 : ∀ (k : Nat) x, N[k]? = some x → w.cell? ⟨g2, k, none⟩ = some (strV x)) :
    Calls Tryd.prog 35 #[.slice (some ⟨g1, 0, none⟩) n c1, .slice (some ⟨g2, 0, none⟩) n c2, .func (.func 36) #[] #[]] w fun e w' => e = .returned (.bool (eqB F N)) ∧ w = w' := by
  have HF := Lib.hid hF
  have HN := Lib.hid hN
  have H1 := Lib.hid h1
  have H2 := Lib.hid h2
  clear hF hN h1 h2
  go_enter Tryd.func35, Tryd.ntmps35
  go_wp2
  go_loop [7, 8, 9, 17] (fun _ _ _ i => ∃ k : Nat, i = .int .i64 k ∧ k ≤ n ∧ Hid (eqB F N = eqB (F.drop k) (N.drop k))) (fun _ _ _ i => n - (intOf i).toNat)
  case atStart => exact ⟨0, rfl, by omega, Lib.hid (by rw [List.drop_zero, List.drop_zero])⟩
  case round =>
    obtain ⟨k, rfl, hk, hv⟩ := hrel
    by_cases hlt : k < n
    · obtain ⟨x, hx⟩ : ∃ x, F[k]? = some x := ⟨_, List.getElem?_eq_getElem (by rw [HF.out]; exact hlt)⟩
      obtain ⟨y, hy⟩ : ∃ y, N[k]? = some y := ⟨_, List.getElem?_eq_getElem (by rw [HN.out]; exact hlt)⟩
      have hc1 := H1.out k x hx
      have hc2 := H2.out k y hy
      have hf := hv.out.trans (eqB_at hx hy)
      clear hx hy
      obtain ⟨y1, hy1⟩ : ∃ y1 : ByteArray, (⟨x.toArray⟩ : ByteArray) = y1 := ⟨_, rfl⟩
      obtain ⟨y2, hy2⟩ : ∃ y2 : ByteArray, (⟨y.toArray⟩ : ByteArray) = y2 := ⟨_, rfl⟩
      have e1 : x = y1.data.toList := by rw [← hy1]
      have e2 : y = y2.data.toList := by rw [← hy2]
      have hd1 : w.cell? ⟨g1, k, none⟩ = some (.string y1) := by rw [hc1, ← hy1]; rfl
      have hd2 : w.cell? ⟨g2, k, none⟩ = some (.string y2) := by rw [hc2, ← hy2]; rfl
      rw [e1, e2] at hf
      clear hc1 hc2 hy1 hy2 e1 e2
      obtain ⟨b, hb⟩ : ∃ b, Pl.one y1.data.toList y2.data.toList = b := ⟨_, rfl⟩
      rw [hb] at hf
      have Hb := Lib.hid hb
      have Hf := Lib.hid hf
      clear hb hf
      cases b
      · go_wp2_with fail
        refine (eqone_any y1 y2 _).mono ?_
        rintro e w1 ⟨rfl, rfl⟩
        rw [Hb.out]
        go_wp2
        go_ret
        exact ⟨ret_bool (by rw [Hf.out]; rfl), rfl⟩
      · go_wp2_with fail
        refine (eqone_any y1 y2 _).mono ?_
        rintro e w1 ⟨rfl, rfl⟩
        rw [Hb.out]
        go_wp2
        go_round
        case rel => exact ⟨k + 1, by go_num, by omega, Lib.hid (by rw [Hf.out]; rfl)⟩
        case measure => simp [intOf]; omega
    · have hf := hv.out.trans (eqB_end (by rw [HF.out]; omega))
      have Hf := Lib.hid hf
      clear hf
      go_wp2
      go_ret
      exact ⟨ret_bool Hf.out.symm, rfl⟩
end Go.Proofs.YtenoaonlngndpaaDoor

/- The walk of package topic's Match. -/
namespace Go.Proofs.YtenoaonlngndpaaDoor
set_option linter.unusedVariables false
open Go.RowKit Pl Go.Shelf

theorem match_bad1 (F N : ByteArray) (w : World) (hF : F.size ≤ 281474976710656) (hN : N.size ≤ 281474976710656) (hT : Tabs w) (h1 : filtB F = false) :
    Calls Tryd.prog 15 #[.string F, .string N] w fun e w' => e = .returned (.bool (mtB F N)) ∧ Below w.heap.size w w' := by
  have HT := Lib.hid hT
  have H1 := Lib.hid (filtC_bad h1)
  have Hr := Lib.hid (mt_filt (N := N) h1)
  clear hT h1
  go_enter Tryd.func15, Tryd.ntmps15
  go_wp2_with fail
  refine (checkfilter_any F _ hF HT.out).mono ?_
  rintro e w1 ⟨rfl, b1⟩
  rw [H1.out]
  go_wp2
  go_ret
  exact ⟨ret_bool Hr.out.symm, b1⟩
theorem match_bad2 (F N : ByteArray) (w : World) (hF : F.size ≤ 281474976710656) (hN : N.size ≤ 281474976710656) (hT : Tabs w) (h1 : filtB F = true) (h2 : nameB N = false) :
    Calls Tryd.prog 15 #[.string F, .string N] w fun e w' => e = .returned (.bool (mtB F N)) ∧ Below w.heap.size w w' := by
  have HT := Lib.hid hT
  have H1 := Lib.hid (filtC_ok h1)
  have H2 := Lib.hid (nameC_bad h2)
  have Hr := Lib.hid (mt_name (F := F) h2)
  clear hT h1 h2
  go_enter Tryd.func15, Tryd.ntmps15
  go_wp2_with fail
  refine (checkfilter_any F _ hF HT.out).mono ?_
  rintro e w1 ⟨rfl, b1⟩
  rw [H1.out]
  have HT1 : Hid (Tabs w1) := Lib.hid (HT.out.below b1)
  go_wp2_with fail
  refine (checkname_any N _ hN HT1.out).mono ?_
  rintro e w2 ⟨rfl, b2⟩
  rw [H2.out]
  go_wp2
  go_ret
  exact ⟨ret_bool Hr.out.symm, b1.trans (b2.mono b1.size)⟩
theorem match_dol (F N : ByteArray) (w : World) (hT : Tabs w) (h1 : filtB F = true) (h2 : nameB N = true) (h3 : dol F.data.toList N.data.toList = true) :
    Calls Tryd.prog 15 #[.string F, .string N] w fun e w' => e = .returned (.bool (mtB F N)) ∧ Below w.heap.size w w' := by
  have HT := Lib.hid hT
  have H1 := Lib.hid (filtC_ok h1)
  have H2 := Lib.hid (nameC_ok h2)
  have Hr := Lib.hid (mt_dol h3)
  have sF := szd_size (filt_szd2 h1).1
  have sN := szd_size (name_szd h2)
  have hF0 := sF.1
  have hN0 := sN.1
  have hF1 := sF.2.1
  have hN1 := sN.2.1
  rw [dol_at F N hF0 hN0] at h3
  have e1 := head_one F hF0 43 43 rfl
  have e2 := head_one F hF0 35 35 rfl
  cases b1 : ((N[0].toNat : Int) == 36)
  · rw [b1] at h3; cases h3
  · cases b2 : ((F[0].toNat : Int) == 43)
    · cases b3 : ((F[0].toNat : Int) == 35)
      · rw [b1, b2, b3] at h3; cases h3
      · have f1 : ((F.extract 0 1).toList == [43]) = false := e1.trans b2
        have f2 : ((F.extract 0 1).toList == [35]) = true := e2.trans b3
        clear hT h1 h2 sF sN h3 e1 e2 b2 b3
        go_enter Tryd.func15, Tryd.ntmps15
        go_wp2_with fail
        refine (checkfilter_any F _ (by omega) HT.out).mono ?_
        rintro e w1 ⟨rfl, b1⟩
        rw [H1.out]
        have HT1 : Hid (Tabs w1) := Lib.hid (HT.out.below b1)
        go_wp2_with fail
        refine (checkname_any N _ (by omega) HT1.out).mono ?_
        rintro e w2 ⟨rfl, b2⟩
        rw [H2.out]
        go_wp2
        go_ret
        exact ⟨ret_bool Hr.out.symm, b1.trans (b2.mono b1.size)⟩
    · have f1 : ((F.extract 0 1).toList == [43]) = true := e1.trans b2
      clear hT h1 h2 sF sN h3 e1 e2 b2
      go_enter Tryd.func15, Tryd.ntmps15
      go_wp2_with fail
      refine (checkfilter_any F _ (by omega) HT.out).mono ?_
      rintro e w1 ⟨rfl, b1⟩
      rw [H1.out]
      have HT1 : Hid (Tabs w1) := Lib.hid (HT.out.below b1)
      go_wp2_with fail
      refine (checkname_any N _ (by omega) HT1.out).mono ?_
      rintro e w2 ⟨rfl, b2⟩
      rw [H2.out]
      go_wp2
      go_ret
      exact ⟨ret_bool Hr.out.symm, b1.trans (b2.mono b1.size)⟩

set_option maxHeartbeats 1000000 in
theorem match_ok (F N : ByteArray) (w : World) (hT : Tabs w) (h1 : filtB F = true) (h2 : nameB N = true) (h3 : dol F.data.toList N.data.toList = false) :
    Calls Tryd.prog 15 #[.string F, .string N] w fun e w' => e = .returned (.bool (mtB F N)) ∧ Below w.heap.size w w' := by
  have HT := Lib.hid hT
  have H1 := Lib.hid (filtC_ok h1)
  have H2 := Lib.hid (nameC_ok h2)
  have hr := (mt_lev h1 h2 h3).trans (pmt_mtL _ (lev_ne _) (filt_szd2 h1).2 _).symm
  have sF := szd_size (filt_szd2 h1).1
  have sN := szd_size (name_szd h2)
  have hF0 := sF.1
  have hN0 := sN.1
  have hF1 := sF.2.1
  have hN1 := sN.2.1
  have pF := lev_pos F.data.toList
  have nF := sF.2.2
  have nN := sN.2.2
  rw [dol_at F N hF0 hN0] at h3
  have e1 := head_one F hF0 43 43 rfl
  have e2 := head_one F hF0 35 35 rfl
  obtain ⟨A, hA⟩ : ∃ A, lev F.data.toList = A := ⟨_, rfl⟩
  obtain ⟨B, hB⟩ : ∃ B, lev N.data.toList = B := ⟨_, rfl⟩
  rw [hA, hB] at hr
  rw [hA] at pF nF
  rw [hB] at nN
  obtain ⟨m, hm⟩ : ∃ m, A.length = m + 1 := ⟨A.length - 1, by omega⟩
  obtain ⟨n, hn⟩ : ∃ n, B.length = n := ⟨_, rfl⟩
  obtain ⟨z, hz⟩ : ∃ z, A[m]? = some z := ⟨_, List.getElem?_eq_getElem (by omega)⟩
  have hall := last_at hm hz
  rw [hm] at nF
  rw [hn] at nN
  have HA := Lib.hid hA
  have HB := Lib.hid hB
  have Hm := Lib.hid hm
  have Hn := Lib.hid hn
  have Hz := Lib.hid hz
  have Hr := Lib.hid hr
  obtain ⟨y, hy⟩ : ∃ y : ByteArray, (⟨z.toArray⟩ : ByteArray) = y := ⟨_, rfl⟩
  have hyz : z = y.data.toList := by rw [← hy]
  have hall2 : (y.toList == [35]) = allB A := by rw [hall, ByteArray.toList_eq, ← hyz]
  have Hy := Lib.hid (show strV z = .string y by rw [← hy]; rfl)
  obtain ⟨al, hal⟩ : ∃ al, allB A = al := ⟨_, rfl⟩
  rw [hal] at hall2
  have Hal := Lib.hid hal
  clear hT h1 h2 hr sF sN hA hB hm hn hz hall hy hyz hal pF
  have hd : ((N[0].toNat : Int) == 36) = false ∨ (((N[0].toNat : Int) == 36) = true ∧ ((F.extract 0 1).toList == [43]) = false ∧ ((F.extract 0 1).toList == [35]) = false) := by
    rw [e1, e2]
    revert h3
    cases ((N[0].toNat : Int) == 36) <;> cases ((F[0].toNat : Int) == 43) <;> cases ((F[0].toNat : Int) == 35) <;> decide
  clear h3 e1 e2
  rcases hd with hd | ⟨hd, f1, f2⟩
  all_goals
    go_enter Tryd.func15, Tryd.ntmps15
    go_wp2_with fail
    refine (checkfilter_any F _ (by omega) HT.out).mono ?_
    rintro e w1 ⟨rfl, b1⟩
    rw [H1.out]
    have HT1 : Hid (Tabs w1) := Lib.hid (HT.out.below b1)
    go_wp2_with fail
    refine (checkname_any N _ (by omega) HT1.out).mono ?_
    rintro e w2 ⟨rfl, b2⟩
    rw [H2.out]
    have b12 := b1.trans (b2.mono b1.size)
    go_wp2_with fail
    refine (levels_any F _ (by omega)).mono ?_
    rintro e w3 ⟨rfl, hw3⟩
    rw [HA.out] at hw3
    rw [HA.out, Hm.out]
    obtain ⟨g1, hg1⟩ : ∃ g, w2.heap.size = g := ⟨_, rfl⟩
    have hc1 : ∀ (k : Nat) x, A[k]? = some x → w3.cell? ⟨g1, k, none⟩ = some (strV x) := by
      intro k x hx
      subst hw3
      rw [← hg1, World.cell?_alloc_mark]
      simp [hx]
    have hs3 : g1 < w3.heap.size := by subst hw3; rw [← hg1]; simp
    have b3 : Below w.heap.size w w3 := by subst hw3; exact b12.alloc b12.size _
    rw [hg1]
    clear hw3 hg1
    have Hc1 := Lib.hid hc1
    clear hc1
    go_wp2_with fail
    refine (levels_any N _ (by omega)).mono ?_
    rintro e w4 ⟨rfl, hw4⟩
    rw [HB.out] at hw4
    rw [HB.out, Hn.out]
    obtain ⟨g2, hg2⟩ : ∃ g, w3.heap.size = g := ⟨_, rfl⟩
    have hc2 : ∀ (k : Nat) x, B[k]? = some x → w4.cell? ⟨g2, k, none⟩ = some (strV x) := by
      intro k x hx
      subst hw4
      rw [← hg2, World.cell?_alloc_mark]
      simp [hx]
    have hc1' : ∀ (k : Nat) x, A[k]? = some x → w4.cell? ⟨g1, k, none⟩ = some (strV x) := by
      intro k x hx
      subst hw4
      rw [World.cell?_alloc_lt _ _ _ hs3]
      exact Hc1.out k x hx
    have b4 : Below w.heap.size w w4 := by subst hw4; exact b3.alloc b3.size _
    rw [hg2]
    have hlast : w4.cell? ⟨g1, m, none⟩ = some (.string y) := by rw [hc1' m z Hz.out, Hy.out]
    have Hd1 := Lib.hid hc1'
    have Hd2 := Lib.hid hc2
    clear hw4 hg2 hc2 hc1' Hc1 hs3
    cases al
    · by_cases hlt : n < m + 1
      · have hv := Lib.hid (show mtB F N = false by
          rw [Hr.out]; unfold pmt
          rw [cutL_not Hal.out, Hm.out, Hn.out, decide_eq_true hlt]; rfl)
        go_wp2
        go_ret
        exact ⟨ret_bool hv.out.symm, b4⟩
      · by_cases hgt : m + 1 < n
        · have hv := Lib.hid (show mtB F N = false by
            rw [Hr.out]; unfold pmt
            rw [cutL_not Hal.out, Hm.out, Hn.out, decide_eq_true hgt, Hal.out]; simp)
          go_wp2
          go_ret
          exact ⟨ret_bool hv.out.symm, b4⟩
        · have hv := Lib.hid (show mtB F N = eqB A (B.take (m + 1)) by
            rw [Hr.out]; unfold pmt
            rw [cutL_not Hal.out, Hm.out, Hn.out, decide_eq_false hlt, decide_eq_false hgt]; simp)
          go_wp2_with fail
          refine (equalfunc_any (m + 1) g1 g2 _ _ A (B.take (m + 1)) _ Hm.out (by rw [List.length_take, Hn.out]; omega) (by omega) Hd1.out (fun k x hx => Hd2.out k x (by
            rw [List.getElem?_take] at hx
            split at hx
            · exact hx
            · cases hx))).mono ?_
          rintro e w5 ⟨rfl, rfl⟩
          go_wp2
          go_ret
          exact ⟨ret_bool hv.out.symm, b4⟩
    · by_cases hlt : n < m
      · have hv := Lib.hid (show mtB F N = false by
          rw [Hr.out]; unfold pmt
          rw [cutL_all Hal.out, List.length_dropLast, Hm.out, Hn.out, Nat.add_sub_cancel, decide_eq_true hlt]; rfl)
        go_wp2
        go_ret
        exact ⟨ret_bool hv.out.symm, b4⟩
      · have hv := Lib.hid (show mtB F N = eqB A.dropLast (B.take m) by
          rw [Hr.out]; unfold pmt
          rw [cutL_all Hal.out, List.length_dropLast, Hm.out, Hn.out, Nat.add_sub_cancel, decide_eq_false hlt, Hal.out]; simp)
        go_wp2_with fail
        refine (equalfunc_any m g1 g2 _ _ A.dropLast (B.take m) _ (by rw [List.length_dropLast, Hm.out]; rfl) (by rw [List.length_take, Hn.out]; omega) (by omega) (fun k x hx => Hd1.out k x (by
            rw [List.getElem?_dropLast] at hx
            split at hx
            · exact hx
            · cases hx)) (fun k x hx => Hd2.out k x (by
            rw [List.getElem?_take] at hx
            split at hx
            · exact hx
            · cases hx))).mono ?_
        rintro e w5 ⟨rfl, rfl⟩
        go_wp2
        go_ret
        exact ⟨ret_bool hv.out.symm, b4⟩

theorem match_any (F N : ByteArray) (w : World) (hF : F.size ≤ 281474976710656) (hN : N.size ≤ 281474976710656) (hT : Tabs w) :
    Calls Tryd.prog 15 #[.string F, .string N] w fun e w' => e = .returned (.bool (mtB F N)) ∧ Below w.heap.size w w' := by
  cases h1 : filtB F
  · exact match_bad1 F N w hF hN hT h1
  · cases h2 : nameB N
    · exact match_bad2 F N w hF hN hT h1 h2
    · cases h3 : dol F.data.toList N.data.toList
      · exact match_ok F N w hT h1 h2 h3
      · exact match_dol F N w hT h1 h2 h3
end Go.Proofs.YtenoaonlngndpaaDoor

/- The walks of package remap's Check, turned, ToRemote, ToLocal. -/
namespace Go.Proofs.YtenoaonlngndpaaDoor
set_option linter.unusedVariables false
open Go.RowKit Pl Go.Shelf

/-- A rule lies in a block of its own. -/
def RuAt (W : World) (g : Nat) (r : Rl) : Prop :=
  g < W.heap.size ∧ W.cell? ⟨g, 0, none⟩ = some (.string r.pat) ∧ W.cell? ⟨g, 1, none⟩ = some (.int .i64 r.dir) ∧ W.cell? ⟨g, 2, none⟩ = some (.int .i64 r.qos) ∧ W.cell? ⟨g, 3, none⟩ = some (.string r.loc) ∧ W.cell? ⟨g, 4, none⟩ = some (.string r.rem)
theorem RuAt.below {W W' : World} {g : Nat} {r : Rl} (h : RuAt W g r) (hb : Below W.heap.size W W') : RuAt W' g r := by
  obtain ⟨h0, h1, h2, h3, h4, h5⟩ := h
  exact ⟨Nat.lt_of_lt_of_le h0 hb.size, (hb.cell (p := ⟨g, 0, none⟩) h0).trans h1, (hb.cell (p := ⟨g, 1, none⟩) h0).trans h2, (hb.cell (p := ⟨g, 2, none⟩) h0).trans h3, (hb.cell (p := ⟨g, 3, none⟩) h0).trans h4, (hb.cell (p := ⟨g, 4, none⟩) h0).trans h5⟩
theorem RuAt.new (w : World) (r : Rl) (T : TypeId) : RuAt (w.alloc (.cells (ruC r) T)) w.heap.size r := by
  refine ⟨by simp, ?_, ?_, ?_, ?_, ?_⟩ <;> (rw [World.cell?_alloc_mark]; rfl)

theorem prefix_any (s : ByteArray) (w : World) (hs : s.size ≤ 281474976710656) (hT : Tabs w) :
    Calls Tryd.prog 68 #[.string s] w fun e w' => e = .returned (.bool (pre s)) ∧ Below w.heap.size w w' := by
  have HT := Lib.hid hT
  clear hT
  by_cases h0 : s.size = 0
  · have he : s = ⟨#[]⟩ := ByteArray.ext (Array.eq_empty_of_size_eq_zero h0)
    have hemp : s.toList.isEmpty = true := by rw [he, ByteArray.toList_eq]; rfl
    have hnil : s.toList = [] := List.isEmpty_iff.1 hemp
    have Hz := Lib.hid (show pre s = true by unfold pre; rw [decide_eq_true h0]; rfl)
    clear he h0
    go_enter Tryd.func68, Tryd.ntmps68
    go_wp2
    go_ret
    exact ⟨ret_bool Hz.out.symm, Below.refl _ _⟩
  · have hemp : s.toList.isEmpty = false := by
      rw [ByteArray.toList_eq, List.isEmpty_eq_false_iff]
      intro hc
      exact h0 (congrArg List.length hc)
    have hnil : ¬ s.toList = [] := by rw [← List.isEmpty_iff, hemp]; simp
    have hp0 : pre s = nameB s := by unfold pre; rw [decide_eq_false h0]; rfl
    cases hn : nameB s
    · have Hc := Lib.hid (nameC_bad hn)
      have Hz := Lib.hid (hp0.trans hn)
      clear h0 hp0 hn
      go_enter Tryd.func68, Tryd.ntmps68
      go_wp2_with fail
      refine (checkname_any s _ hs HT.out).mono ?_
      rintro e w1 ⟨rfl, b1⟩
      rw [Hc.out]
      go_wp2
      go_ret
      exact ⟨ret_bool Hz.out.symm, b1⟩
    · have Hc := Lib.hid (nameC_ok hn)
      have Hz := Lib.hid (hp0.trans hn)
      clear h0 hp0 hn
      go_enter Tryd.func68, Tryd.ntmps68
      go_wp2_with fail
      refine (checkname_any s _ hs HT.out).mono ?_
      rintro e w1 ⟨rfl, b1⟩
      rw [Hc.out]
      go_wp2
      go_ret
      exact ⟨ret_bool Hz.out.symm, b1⟩

set_option maxHeartbeats 1000000 in
theorem rcheck_any (r : Rl) (w : World) (hr : r.fits) (hT : Tabs w) :
    Calls Tryd.prog 55 #[ruV r] w fun e w' => e = .returned (.int .u8 (ckR r)) ∧ Below w.heap.size w w' := by
  obtain ⟨p0, p1, p2, p3, p4, p5, p6⟩ := hr
  have b0 : Below w.heap.size w (w.alloc (.cells (ruC r) 53)) := (Below.refl _ _).alloc (Nat.le_refl _) _
  have HT := Lib.hid (hT.below b0)
  have R0 := RuAt.new w r 53
  obtain ⟨W0, hW0⟩ : ∃ W0, w.alloc (.cells (ruC r) 53) = W0 := ⟨_, rfl⟩
  have HW := Lib.hid hW0
  rw [hW0] at b0 HT R0
  have HR := Lib.hid R0
  obtain ⟨g0, q0, q1, q2, q3, q4⟩ := R0
  have hck : ckR r = if filtB r.pat then (if pre r.loc && pre r.rem then inC r.dir r.qos else 144) else 143 := rfl
  clear hT hW0
  unfold ruV
  unfold ruC at HW
  cases hf : filtB r.pat
  · have Hf := Lib.hid (filtC_bad hf)
    have Hz := Lib.hid (show ckR r = 143 by rw [hck, hf]; rfl)
    clear hck hf
    go_enter Tryd.func55, Tryd.ntmps55
    go_wp2_with fail
    rw [HW.out]
    refine (checkfilter_any r.pat _ (by omega) HT.out).mono ?_
    rintro e w1 ⟨rfl, b1⟩
    rw [Hf.out]
    go_wp2
    go_ret
    exact ⟨ret_int Hz.out.symm, b0.trans (b1.mono b0.size)⟩
  · have Hf := Lib.hid (filtC_ok hf)
    cases hl : pre r.loc
    · have Hz := Lib.hid (show ckR r = 144 by rw [hck, hf, hl]; rfl)
      have Hl := Lib.hid hl
      clear hck hf hl
      go_enter Tryd.func55, Tryd.ntmps55
      go_wp2_with fail
      rw [HW.out]
      refine (checkfilter_any r.pat _ (by omega) HT.out).mono ?_
      rintro e w1 ⟨rfl, b1⟩
      rw [Hf.out]
      have HT1 := Lib.hid (HT.out.below b1)
      have c1 := b0.trans (b1.mono b0.size)
      obtain ⟨g1, r0, r1, r2, r3, r4⟩ := HR.out.below b1
      go_wp2_with fail
      refine (prefix_any r.loc _ (by omega) HT1.out).mono ?_
      rintro e w2 ⟨rfl, b2⟩
      rw [Hl.out]
      have c2 := c1.trans (b2.mono c1.size)
      go_wp2
      go_ret
      exact ⟨ret_int Hz.out.symm, c2⟩
    · cases hrm : pre r.rem
      · have Hz := Lib.hid (show ckR r = 144 by rw [hck, hf, hl, hrm]; rfl)
        have Hl := Lib.hid hl
        have Hm := Lib.hid hrm
        clear hck hf hl hrm
        go_enter Tryd.func55, Tryd.ntmps55
        go_wp2_with fail
        rw [HW.out]
        refine (checkfilter_any r.pat _ (by omega) HT.out).mono ?_
        rintro e w1 ⟨rfl, b1⟩
        rw [Hf.out]
        have HT1 := Lib.hid (HT.out.below b1)
        have c1 := b0.trans (b1.mono b0.size)
        have HR1 := Lib.hid (HR.out.below b1)
        obtain ⟨g1, r0, r1, r2, r3, r4⟩ := HR1.out
        go_wp2_with fail
        refine (prefix_any r.loc _ (by omega) HT1.out).mono ?_
        rintro e w2 ⟨rfl, b2⟩
        rw [Hl.out]
        have HT2 := Lib.hid (HT1.out.below b2)
        have c2 := c1.trans (b2.mono c1.size)
        obtain ⟨g2, s0, s1, s2, s3, s4⟩ := HR1.out.below b2
        go_wp2_with fail
        refine (prefix_any r.rem _ (by omega) HT2.out).mono ?_
        rintro e w3 ⟨rfl, b3⟩
        rw [Hm.out]
        have c3 := c2.trans (b3.mono c2.size)
        go_wp2
        go_ret
        exact ⟨ret_int Hz.out.symm, c3⟩
      · have hz : ckR r = inC r.dir r.qos := by rw [hck, hf, hl, hrm]; rfl
        have Hl := Lib.hid hl
        have Hm := Lib.hid hrm
        have hic := inC_cases r.dir r.qos
        rw [← hz] at hic
        clear hck hf hl hrm hz
        rcases hic with ⟨i1, hz⟩ | ⟨i1, i2, hz⟩ | ⟨i1, i2, i3, hz⟩ | ⟨i1, i2, i3, i4, hz⟩ | ⟨i1, i2, i3, i4, hz⟩
        all_goals
          have Hz := Lib.hid hz
          clear hz
          go_enter Tryd.func55, Tryd.ntmps55
          go_wp2_with fail
          rw [HW.out]
          refine (checkfilter_any r.pat _ (by omega) HT.out).mono ?_
          rintro e w1 ⟨rfl, b1⟩
          rw [Hf.out]
          have HT1 := Lib.hid (HT.out.below b1)
          have c1 := b0.trans (b1.mono b0.size)
          have HR1 := Lib.hid (HR.out.below b1)
          obtain ⟨g1, r0, r1, r2, r3, r4⟩ := HR1.out
          go_wp2_with fail
          refine (prefix_any r.loc _ (by omega) HT1.out).mono ?_
          rintro e w2 ⟨rfl, b2⟩
          rw [Hl.out]
          have HT2 := Lib.hid (HT1.out.below b2)
          have c2 := c1.trans (b2.mono c1.size)
          have HR2 := Lib.hid (HR1.out.below b2)
          obtain ⟨g2, s0, s1, s2, s3, s4⟩ := HR2.out
          go_wp2_with fail
          refine (prefix_any r.rem _ (by omega) HT2.out).mono ?_
          rintro e w3 ⟨rfl, b3⟩
          rw [Hm.out]
          have c3 := c2.trans (b3.mono c2.size)
          obtain ⟨g3, t0, t1, t2, t3, t4⟩ := HR2.out.below b3
          go_wp2
          go_ret
          exact ⟨ret_int Hz.out.symm, c3⟩
end Go.Proofs.YtenoaonlngndpaaDoor

/- The walks of package remap's turned, ToRemote, ToLocal, Flip. -/
namespace Go.Proofs.YtenoaonlngndpaaDoor
set_option linter.unusedVariables false
open Go.RowKit Pl Go.Shelf

theorem cutprefix_any (n f : ByteArray) (w : World) :
    Calls Tryd.prog 54 #[.string n, .string f] w fun e w' => ∃ x : ByteArray, e = .returned (.tuple #[.string x, .bool (hp n f)]) ∧ (hp n f = true → x = rst n f) ∧ w = w' :=
  (Tryd.strings_CutPrefix n f w).mono fun e w' ⟨he, hw⟩ => ⟨_, he, fun h => trim_hit h, hw.symm⟩
theorem rst_size (n f : ByteArray) : (rst n f).size ≤ n.size := by unfold rst; rw [ByteArray.size_extract]; omega
theorem Pl.trn_no {r : Rl} {n f t : ByteArray} (h : (hp n f && (decide (ckR r = 0) && (mtB r.pat (rst n f) && (nameB n && nameB (t ++ rst n f))))) = false) : trn r n f t = (⟨#[]⟩, false) := by
  unfold trn; rw [h]; rfl
theorem Pl.trn_yes {r : Rl} {n f t : ByteArray} (h1 : hp n f = true) (h2 : ckR r = 0) (h3 : mtB r.pat (rst n f) = true) (h4 : nameB n = true) (h5 : nameB (t ++ rst n f) = true) : trn r n f t = (t ++ rst n f, true) := by
  unfold trn; rw [h1, h2, h3, h4, h5]; rfl

set_option maxHeartbeats 1000000 in
theorem turned_any (r : Rl) (n f t : ByteArray) (w : World) (hr : r.fits) (hn : n.size ≤ 140737488351232) (hf : f.size ≤ 140737488351232) (ht : t.size ≤ 140737488351232) (hT : Tabs w) :
    Calls Tryd.prog 37 #[ruV r, .string n, .string f, .string t] w fun e w' => e = .returned (.tuple #[.string (trn r n f t).1, .bool (trn r n f t).2]) ∧ Below w.heap.size w w' := by
  have p0 := hr.1
  have HF := Lib.hid hr
  have b0 : Below w.heap.size w (w.alloc (.cells (ruC r) 53)) := (Below.refl _ _).alloc (Nat.le_refl _) _
  have HT := Lib.hid (hT.below b0)
  have R0 := RuAt.new w r 53
  obtain ⟨W0, hW0⟩ : ∃ W0, w.alloc (.cells (ruC r) 53) = W0 := ⟨_, rfl⟩
  have HW := Lib.hid hW0
  rw [hW0] at b0 HT R0
  have HR := Lib.hid R0
  obtain ⟨g0, q0, q1, q2, q3, q4⟩ := R0
  have hrs := rst_size n f
  have hck := ckR_bd r
  have hck0 := hck.1
  have hck1 := hck.2
  clear hT hW0 hr hck
  unfold ruV
  unfold ruC at HW
  cases h1 : hp n f
  · have HZ := Lib.hid (trn_no (r := r) (n := n) (f := f) (t := t) (by rw [h1]; rfl))
    have H1 := Lib.hid h1
    clear h1
    go_enter Tryd.func37, Tryd.ntmps37
    go_wp2_with fail
    rw [HW.out]
    refine (cutprefix_any n f _).mono ?_
    rintro e w1 ⟨x, rfl, hx, rfl⟩
    rw [H1.out]
    clear hx
    go_wp2
    go_ret2
    exact ⟨ret2 (val_bytes (by rw [HZ.out])) (val_bool (by rw [HZ.out])), b0⟩
  · have H1 := Lib.hid h1
    by_cases h2 : ckR r = 0
    · have H2 := Lib.hid h2
      have H2r := Lib.hid h2
      cases h3 : mtB r.pat (rst n f)
      · have HZ := Lib.hid (trn_no (r := r) (n := n) (f := f) (t := t) (by rw [h3]; simp))
        have H3 := Lib.hid h3
        clear h1 h2 h3
        go_enter Tryd.func37, Tryd.ntmps37
        go_wp2_with fail
        rw [HW.out]
        refine (cutprefix_any n f _).mono ?_
        rintro e w1 ⟨x, rfl, hx, rfl⟩
        rw [H1.out]
        obtain rfl := hx H1.out
        clear hx
        go_wp2_with fail
        refine (rcheck_any r _ HF.out HT.out).mono ?_
        rintro e w2 ⟨rfl, b2⟩
        rw [H2.out]
        have HT2 := Lib.hid (HT.out.below b2)
        have c2 := b0.trans (b2.mono b0.size)
        obtain ⟨g2, s0, s1, s2, s3, s4⟩ := HR.out.below b2
        go_wp2_with fail
        refine (match_any r.pat (rst n f) _ (by omega) (by omega) HT2.out).mono ?_
        rintro e w3 ⟨rfl, b3⟩
        rw [H3.out]
        have HT3 := Lib.hid (HT2.out.below b3)
        have c3 := c2.trans (b3.mono c2.size)
        go_wp2
        go_ret2
        exact ⟨ret2 (val_bytes (by rw [HZ.out])) (val_bool (by rw [HZ.out])), c3⟩
      · have H3 := Lib.hid h3
        cases h4 : nameB n
        · have HZ := Lib.hid (trn_no (r := r) (n := n) (f := f) (t := t) (by rw [h4]; simp))
          have H4 := Lib.hid (nameC_bad h4)
          clear h1 h2 h3 h4
          go_enter Tryd.func37, Tryd.ntmps37
          go_wp2_with fail
          rw [HW.out]
          refine (cutprefix_any n f _).mono ?_
          rintro e w1 ⟨x, rfl, hx, rfl⟩
          rw [H1.out]
          obtain rfl := hx H1.out
          clear hx
          go_wp2_with fail
          refine (rcheck_any r _ HF.out HT.out).mono ?_
          rintro e w2 ⟨rfl, b2⟩
          rw [H2.out]
          have HT2 := Lib.hid (HT.out.below b2)
          have c2 := b0.trans (b2.mono b0.size)
          obtain ⟨g2, s0, s1, s2, s3, s4⟩ := HR.out.below b2
          go_wp2_with fail
          refine (match_any r.pat (rst n f) _ (by omega) (by omega) HT2.out).mono ?_
          rintro e w3 ⟨rfl, b3⟩
          rw [H3.out]
          have HT3 := Lib.hid (HT2.out.below b3)
          have c3 := c2.trans (b3.mono c2.size)
          go_wp2_with fail
          refine (checkname_any n _ (by omega) HT3.out).mono ?_
          rintro e w4 ⟨rfl, b4⟩
          rw [H4.out]
          have HT4 := Lib.hid (HT3.out.below b4)
          have c4 := c3.trans (b4.mono c3.size)
          go_wp2
          go_ret2
          exact ⟨ret2 (val_bytes (by rw [HZ.out])) (val_bool (by rw [HZ.out])), c4⟩
        · have H4 := Lib.hid (nameC_ok h4)
          cases h5 : nameB (t ++ rst n f)
          · have HZ := Lib.hid (trn_no (r := r) (n := n) (f := f) (t := t) (by rw [h5]; simp))
            have H5 := Lib.hid (nameC_bad h5)
            clear h1 h2 h3 h4 h5
            go_enter Tryd.func37, Tryd.ntmps37
            go_wp2_with fail
            rw [HW.out]
            refine (cutprefix_any n f _).mono ?_
            rintro e w1 ⟨x, rfl, hx, rfl⟩
            rw [H1.out]
            obtain rfl := hx H1.out
            clear hx
            go_wp2_with fail
            refine (rcheck_any r _ HF.out HT.out).mono ?_
            rintro e w2 ⟨rfl, b2⟩
            rw [H2.out]
            have HT2 := Lib.hid (HT.out.below b2)
            have c2 := b0.trans (b2.mono b0.size)
            obtain ⟨g2, s0, s1, s2, s3, s4⟩ := HR.out.below b2
            go_wp2_with fail
            refine (match_any r.pat (rst n f) _ (by omega) (by omega) HT2.out).mono ?_
            rintro e w3 ⟨rfl, b3⟩
            rw [H3.out]
            have HT3 := Lib.hid (HT2.out.below b3)
            have c3 := c2.trans (b3.mono c2.size)
            go_wp2_with fail
            refine (checkname_any n _ (by omega) HT3.out).mono ?_
            rintro e w4 ⟨rfl, b4⟩
            rw [H4.out]
            have HT4 := Lib.hid (HT3.out.below b4)
            have c4 := c3.trans (b4.mono c3.size)
            go_wp2_with fail
            refine (checkname_any (t ++ rst n f) _ (by rw [ByteArray.size_append]; omega) HT4.out).mono ?_
            rintro e w5 ⟨rfl, b5⟩
            rw [H5.out]
            have c5 := c4.trans (b5.mono c4.size)
            go_wp2
            go_ret2
            exact ⟨ret2 (val_bytes (by rw [HZ.out])) (val_bool (by rw [HZ.out])), c5⟩
          · have HZ := Lib.hid (trn_yes h1 h2 h3 h4 h5)
            have H5 := Lib.hid (nameC_ok h5)
            clear h1 h2 h3 h4 h5
            go_enter Tryd.func37, Tryd.ntmps37
            go_wp2_with fail
            rw [HW.out]
            refine (cutprefix_any n f _).mono ?_
            rintro e w1 ⟨x, rfl, hx, rfl⟩
            rw [H1.out]
            obtain rfl := hx H1.out
            clear hx
            go_wp2_with fail
            refine (rcheck_any r _ HF.out HT.out).mono ?_
            rintro e w2 ⟨rfl, b2⟩
            rw [H2.out]
            have HT2 := Lib.hid (HT.out.below b2)
            have c2 := b0.trans (b2.mono b0.size)
            obtain ⟨g2, s0, s1, s2, s3, s4⟩ := HR.out.below b2
            go_wp2_with fail
            refine (match_any r.pat (rst n f) _ (by omega) (by omega) HT2.out).mono ?_
            rintro e w3 ⟨rfl, b3⟩
            rw [H3.out]
            have HT3 := Lib.hid (HT2.out.below b3)
            have c3 := c2.trans (b3.mono c2.size)
            go_wp2_with fail
            refine (checkname_any n _ (by omega) HT3.out).mono ?_
            rintro e w4 ⟨rfl, b4⟩
            rw [H4.out]
            have HT4 := Lib.hid (HT3.out.below b4)
            have c4 := c3.trans (b4.mono c3.size)
            go_wp2_with fail
            refine (checkname_any (t ++ rst n f) _ (by rw [ByteArray.size_append]; omega) HT4.out).mono ?_
            rintro e w5 ⟨rfl, b5⟩
            rw [H5.out]
            have c5 := c4.trans (b5.mono c4.size)
            go_wp2
            go_ret2
            exact ⟨ret2 (val_bytes (by rw [HZ.out])) (val_bool (by rw [HZ.out])), c5⟩
    · have HZ := Lib.hid (trn_ck (n := n) (f := f) (t := t) h2)
      obtain ⟨c, hc⟩ : ∃ c, ckR r = c := ⟨_, rfl⟩
      rw [hc] at h2 hck0 hck1
      have h2a : (c == 0) = false := beq_eq_false_iff_ne.2 h2
      have h2b : (c != 0) = true := by rw [bne_iff_ne]; exact h2
      have Hc := Lib.hid hc
      clear h1 h2 hc
      go_enter Tryd.func37, Tryd.ntmps37
      go_wp2_with fail
      rw [HW.out]
      refine (cutprefix_any n f _).mono ?_
      rintro e w1 ⟨x, rfl, hx, rfl⟩
      rw [H1.out]
      obtain rfl := hx H1.out
      clear hx
      go_wp2_with fail
      refine (rcheck_any r _ HF.out HT.out).mono ?_
      rintro e w2 ⟨rfl, b2⟩
      rw [Hc.out]
      have HT2 := Lib.hid (HT.out.below b2)
      have c2 := b0.trans (b2.mono b0.size)
      obtain ⟨g2, s0, s1, s2, s3, s4⟩ := HR.out.below b2
      go_wp2
      go_ret2
      exact ⟨ret2 (val_bytes (by rw [HZ.out])) (val_bool (by rw [HZ.out])), c2⟩

theorem toremote_any (r : Rl) (n : ByteArray) (w : World) (hr : r.fits) (hn : n.size ≤ 140737488351232) (hT : Tabs w) :
    Calls Tryd.prog 16 #[ruV r, .string n] w fun e w' => e = .returned (.tuple #[.string (toRem r n).1, .bool (toRem r n).2]) ∧ Below w.heap.size w w' := by
  have HF := Lib.hid hr
  have hl : r.loc.size ≤ 140737488351232 := hr.2.1
  have hm : r.rem.size ≤ 140737488351232 := hr.2.2.1
  have hd0 : -9223372036854775808 ≤ r.dir := hr.2.2.2.1
  have hd1 : r.dir ≤ 9223372036854775807 := hr.2.2.2.2.1
  have b0 : Below w.heap.size w (w.alloc (.cells (ruC r) 53)) := (Below.refl _ _).alloc (Nat.le_refl _) _
  have HT := Lib.hid (hT.below b0)
  have R0 := RuAt.new w r 53
  obtain ⟨W0, hW0⟩ : ∃ W0, w.alloc (.cells (ruC r) 53) = W0 := ⟨_, rfl⟩
  have HW := Lib.hid hW0
  rw [hW0] at b0 HT R0
  obtain ⟨g0, q0, q1, q2, q3, q4⟩ := R0
  clear hT hW0 hr
  unfold ruV
  unfold ruC at HW
  by_cases h : r.dir = 1
  · have HZ := Lib.hid (show toRem r n = (⟨#[]⟩, false) by unfold toRem; rw [if_pos h])
    have h1 : (r.dir == 1) = true := beq_iff_eq.2 h
    clear h
    go_enter Tryd.func16, Tryd.ntmps16
    go_wp2
    go_ret2
    refine ⟨ret2 (val_bytes (by rw [HZ.out])) (val_bool (by rw [HZ.out])), ?_⟩
    exact (Below.refl _ _).alloc (Nat.le_refl _) _
  · have HZ := Lib.hid (show toRem r n = trn r n r.loc r.rem by unfold toRem; rw [if_neg h])
    have h1 : (r.dir == 1) = false := beq_eq_false_iff_ne.2 h
    clear h
    go_enter Tryd.func16, Tryd.ntmps16
    go_wp2_with fail
    rw [HW.out]
    refine (turned_any r n r.loc r.rem _ HF.out hn (by omega) (by omega) HT.out).mono ?_
    rintro e w1 ⟨rfl, b1⟩
    go_wp2
    go_ret2
    exact ⟨ret2 (val_bytes (by rw [HZ.out])) (val_bool (by rw [HZ.out])), b0.trans (b1.mono b0.size)⟩
end Go.Proofs.YtenoaonlngndpaaDoor

/- advert.Advert's good. -/
namespace Go.Proofs.YtenoaonlngndpaaDoor
set_option linter.unusedVariables false
set_option linter.unusedSimpArgs false
open Go.RowKit Go.Maps Pl Go.Shelf

def nodeB (n : Int) : Bool := decide (0 ≤ n) && decide (n < 8)
theorem nodeB_t {n : Int} (h : nodeB n = true) : 0 ≤ n ∧ n < 8 := by
  unfold nodeB at h
  simpa using h
theorem node_any (n : Int) (w : World) : Calls Tryd.prog 56 #[.int .i64 n] w fun e w' => e = .returned (.bool (nodeB n)) ∧ w = w' := by
  by_cases h0 : 0 ≤ n
  · by_cases h1 : n < 8
    · have H := Lib.hid (show nodeB n = true by unfold nodeB; simp [h0, h1])
      go_enter Tryd.func56, Tryd.ntmps56
      go_wp2
      go_ret
      exact ⟨ret_bool H.out.symm, rfl⟩
    · have H := Lib.hid (show nodeB n = false by unfold nodeB; simp [h1])
      have hd : decide (n < 8) = false := by simpa using h1
      go_enter Tryd.func56, Tryd.ntmps56
      go_wp2
      go_ret
      exact ⟨ret_bool H.out.symm, rfl⟩
  · have H := Lib.hid (show nodeB n = false by unfold nodeB; simp [h0])
    have hd : decide (0 ≤ n) = false := by simpa using h0
    go_enter Tryd.func56, Tryd.ntmps56
    go_wp2
    go_ret
    exact ⟨ret_bool H.out.symm, rfl⟩
theorem good1_any (x : ByteArray) (w : World) (hx : x.size ≤ 281474976710656) (hT : Tabs w) : Calls Tryd.prog 57 #[.string x] w fun e w' => e = .returned (.bool (!filtB x)) ∧ Below w.heap.size w w' := by
  have C := Lib.hid (checkfilter_any x w hx hT)
  cases hf : filtB x
  · have hc : filtC x = 143 := by unfold filtC; rw [hf]; rfl
    rw [hc] at C
    clear hc hf hT
    go_enter Tryd.func57, Tryd.ntmps57
    go_wp2_with (first | (go_at_call 33; (with_reducible refine C.out.mono ?_); rintro e w1 ⟨rfl, b1⟩) | (fail))
    go_ret
    exact ⟨rfl, b1⟩
  · have hc : filtC x = 0 := by unfold filtC; rw [hf]; rfl
    rw [hc] at C
    clear hc hf hT
    go_enter Tryd.func57, Tryd.ntmps57
    go_wp2_with (first | (go_at_call 33; (with_reducible refine C.out.mono ?_); rintro e w1 ⟨rfl, b1⟩) | (fail))
    go_ret
    exact ⟨rfl, b1⟩
/-- What a rule towards a peer may not be. -/
def badL (owner : Int) (l : Lk) : Bool := !nodeB l.peer || decide (l.peer = owner) || decide (ckR l.rule ≠ 0)
set_option maxHeartbeats 1000000 in
set_option maxRecDepth 100000 in
theorem good2_any (b : Nat) (owner : Int) (l : Lk) (w : World) (hc : w.cell? ⟨b, 0, none⟩ = some (.int .i64 owner)) (hb : b < w.heap.size) (hr : l.rule.fits) (hT : Tabs w) :
    Calls Tryd.prog 59 #[.agg #[.int .i64 l.peer, .string l.rule.pat, .int .i64 l.rule.dir, .int .i64 l.rule.qos, .string l.rule.loc, .string l.rule.rem], .pointer (some ⟨b, 0, none⟩)] w fun e w' => e = .returned (.bool (badL owner l)) ∧ Below w.heap.size w w' := by
  obtain ⟨peer, rule⟩ := l
  simp only at hr ⊢
  have hY := (Below.refl w.heap.size w).alloc (Nat.le_refl _) (.cells #[.int .i64 peer, .string rule.pat, .int .i64 rule.dir, .int .i64 rule.qos, .string rule.loc, .string rule.rem] 55)
  have hk := blk_at w #[.int .i64 peer, .string rule.pat, .int .i64 rule.dir, .int .i64 rule.qos, .string rule.loc, .string rule.rem] 55 rfl
  obtain ⟨Y, hYe⟩ : ∃ Y, w.alloc (.cells #[.int .i64 peer, .string rule.pat, .int .i64 rule.dir, .int .i64 rule.qos, .string rule.loc, .string rule.rem] 55) = Y := ⟨_, rfl⟩
  rw [hYe] at hY hk
  have HE := Lib.hid hYe
  have HB := Lib.hid hY
  have o0 : Y.cell? ⟨b, 0, none⟩ = some (.int .i64 owner) := (hY.cell (p := ⟨b, 0, none⟩) hb).trans hc
  have k0 := hk.cell 0
  have k1 := hk.cell 1
  have k2 := hk.cell 2
  have k3 := hk.cell 3
  have k4 := hk.cell 4
  have k5 := hk.cell 5
  simp only [List.getElem?_toArray, List.getElem?_cons_zero, List.getElem?_cons_succ] at k0 k1 k2 k3 k4 k5
  have CN := Lib.hid (node_any peer Y)
  have CK := Lib.hid (rcheck_any rule Y hr (hT.below hY))
  unfold ruV at CK
  clear hY hk hYe hc hb hT hr
  cases hn : nodeB peer
  · have HZ := Lib.hid (show badL owner ⟨peer, rule⟩ = true by unfold badL; rw [hn]; rfl)
    rw [hn] at CN
    clear hn
    go_enter Tryd.func59, Tryd.ntmps59
    go_wp2_with (first | (rw [HE.out]) | (go_at_call 56; (with_reducible refine CN.out.mono ?_); rintro e w1 ⟨rfl, rfl⟩) | (fail))
    go_ret
    exact ⟨ret_bool HZ.out.symm, HB.out⟩
  · by_cases ho : peer = owner
    · have HZ := Lib.hid (show badL owner ⟨peer, rule⟩ = true by unfold badL; rw [hn]; simp [ho])
      subst ho
      rw [hn] at CN
      clear hn
      go_enter Tryd.func59, Tryd.ntmps59
      go_wp2_with (first | (rw [HE.out]) | (go_at_call 56; (with_reducible refine CN.out.mono ?_); rintro e w1 ⟨rfl, rfl⟩) | (fail))
      go_ret
      exact ⟨ret_bool HZ.out.symm, HB.out⟩
    · have hoe : (peer == owner) = false := beq_eq_false_iff_ne.2 ho
      obtain ⟨c, hcv⟩ : ∃ c, ckR rule = c := ⟨_, rfl⟩
      rw [hcv] at CK
      by_cases hc0 : c = 0
      · have HZ := Lib.hid (show badL owner ⟨peer, rule⟩ = false by unfold badL; rw [hn]; simp [ho, hcv, hc0])
        subst hc0
        rw [hn] at CN
        clear hn hcv ho
        go_enter Tryd.func59, Tryd.ntmps59
        go_wp2_with (first | (rw [HE.out]) | (go_at_call 56; (with_reducible refine CN.out.mono ?_); rintro e w1 ⟨rfl, rfl⟩) | (go_at_call 55; (with_reducible refine CK.out.mono ?_); rintro e w2 ⟨rfl, b2⟩; have HB2 := Lib.hid (HB.out.trans (b2.mono HB.out.size)); clear b2) | (fail))
        go_ret
        exact ⟨ret_bool HZ.out.symm, HB2.out⟩
      · have HZ := Lib.hid (show badL owner ⟨peer, rule⟩ = true by unfold badL; rw [hn]; simp [ho, hcv, hc0])
        have hcn : (c != 0) = true := by rw [bne_iff_ne]; exact hc0
        have hce : (c == 0) = false := beq_eq_false_iff_ne.2 hc0
        rw [hn] at CN
        clear hn hcv ho hc0
        go_enter Tryd.func59, Tryd.ntmps59
        go_wp2_with (first | (rw [HE.out]) | (go_at_call 56; (with_reducible refine CN.out.mono ?_); rintro e w1 ⟨rfl, rfl⟩) | (go_at_call 55; (with_reducible refine CK.out.mono ?_); rintro e w2 ⟨rfl, b2⟩; have HB2 := Lib.hid (HB.out.trans (b2.mono HB.out.size)); clear b2) | (fail))
        go_ret
        exact ⟨ret_bool HZ.out.symm, HB2.out⟩
theorem all_any {α : Type} (p q : α → Bool) (h : ∀ x, q x = !p x) : ∀ l : List α, l.all p = !l.any q
  | [] => rfl
  | x :: l => by rw [List.all_cons, List.any_cons, all_any p q h l, h]; cases p x <;> simp
theorem good_eq (a : Ad) : goodA a = (nodeB a.owner && decide (1 ≤ a.version) && decide (a.version ≤ 9007199254740992) && decide (a.fs.length ≤ 64) && decide (a.ls.length ≤ 16) && !(a.fs.any fun x => !filtB x) && !(a.ls.any (badL a.owner))) := by
  unfold goodA
  rw [all_any filtB (fun x => !filtB x) (fun _ => rfl), all_any (fun l : Lk => decide (0 ≤ l.peer) && decide (l.peer < 8) && !decide (l.peer = a.owner) && decide (ckR l.rule = 0)) (badL a.owner)]
  · unfold nodeB; rfl
  · intro l
    unfold badL nodeB
    by_cases h1 : 0 ≤ l.peer <;> by_cases h2 : l.peer < 8 <;> by_cases h3 : l.peer = a.owner <;> by_cases h4 : ckR l.rule = 0 <;> simp [h1, h2, h3, h4]
/-- What a machine can hold of an advert. -/
structure Pl.Ad.fits (a : Ad) : Prop where
  fs : ∀ f ∈ a.fs, f.size ≤ 140737488351232
  ls : ∀ l ∈ a.ls, l.rule.fits
  nf : a.fs.length ≤ 1048576
  nl : a.ls.length ≤ 1048576
set_option maxHeartbeats 2000000 in
set_option maxRecDepth 100000 in
theorem good_any (B : Nat) (a : Ad) (vf vl : Value) (w : World) (h : AdAt B w 55 a vf vl) (hf : a.fits) (hT : Tabs w) :
    Calls Tryd.prog 39 #[.agg (adA a vf vl)] w fun e w' => e = .returned (.bool (goodA a)) ∧ Below w.heap.size w w' := by
  have hY := (Below.refl w.heap.size w).alloc (Nat.le_refl _) (.cells (adA a vf vl) 47)
  have hk := blk_at w (adA a vf vl) 47 rfl
  obtain ⟨Y, hYe⟩ : ∃ Y, w.alloc (.cells (adA a vf vl) 47) = Y := ⟨_, rfl⟩
  rw [hYe] at hY hk
  have hwY : w.heap.size < Y.heap.size := hk.lt
  have HAY := Lib.hid (h.below hY)
  have HTY := Lib.hid (hT.below hY)
  have HFT := Lib.hid hf
  have HE := Lib.hid hYe
  have HB := Lib.hid hY
  obtain ⟨af, cf, rfl, q1, q2, -⟩ := h.fs.form
  obtain ⟨al, cl, rfl, q3, q4, -⟩ := h.ls.form
  have k0 := hk.cell 0
  have k1 := hk.cell 1
  have k2 := hk.cell 2
  have k3 := hk.cell 3
  have hnf := hf.nf
  have hnl := hf.nl
  unfold maxLen at q2 q4
  simp only [adA, List.getElem?_toArray, List.getElem?_cons_zero, List.getElem?_cons_succ] at k0 k1 k2 k3
  have CN := Lib.hid (node_any a.owner Y)
  have HG := Lib.hid (good_eq a)
  unfold adA at HE ⊢
  clear hY hk hYe hT h hf
  obtain ⟨owner, version, fs, ls⟩ := a
  simp only at k0 k1 k2 k3 q1 q3 CN HE hnf hnl ⊢
  have HK0 := Lib.hid k0
  cases hn : nodeB owner
  · have HZ := Lib.hid (show goodA ⟨owner, version, fs, ls⟩ = false by rw [HG.out]; simp [hn])
    rw [hn] at CN
    clear hn
    go_enter Tryd.func39, Tryd.ntmps39
    go_wp2_with (first | (rw [HE.out]) | (go_at_call 56; (with_reducible refine CN.out.mono ?_); rintro e w1 ⟨rfl, rfl⟩) | (fail))
    go_ret
    exact ⟨ret_bool HZ.out.symm, HB.out⟩
  have HN := Lib.hid hn
  rw [hn] at CN
  clear hn
  by_cases h1 : version < 1
  · have HZ := Lib.hid (show goodA ⟨owner, version, fs, ls⟩ = false by rw [HG.out]; simp [show ¬ 1 ≤ version by omega])
    have d1 : decide (version < 1) = true := by simpa using h1
    go_enter Tryd.func39, Tryd.ntmps39
    go_wp2_with (first | (rw [HE.out]) | (go_at_call 56; (with_reducible refine CN.out.mono ?_); rintro e w1 ⟨rfl, rfl⟩) | (fail))
    go_ret
    exact ⟨ret_bool HZ.out.symm, HB.out⟩
  have d1 : decide (version < 1) = false := by simpa using h1
  by_cases h2 : 9007199254740992 < version
  · have HZ := Lib.hid (show goodA ⟨owner, version, fs, ls⟩ = false by rw [HG.out]; simp [show ¬ version ≤ 9007199254740992 by omega])
    have d2 : decide (9007199254740992 < version) = true := by simpa using h2
    go_enter Tryd.func39, Tryd.ntmps39
    go_wp2_with (first | (rw [HE.out]) | (go_at_call 56; (with_reducible refine CN.out.mono ?_); rintro e w1 ⟨rfl, rfl⟩) | (fail))
    go_ret
    exact ⟨ret_bool HZ.out.symm, HB.out⟩
  have d2 : decide (9007199254740992 < version) = false := by simpa using h2
  by_cases h3 : 64 < fs.length
  · have HZ := Lib.hid (show goodA ⟨owner, version, fs, ls⟩ = false by rw [HG.out]; simp [show ¬ fs.length ≤ 64 by omega])
    have d3 : decide ((64 : Int) < (fs.length : Int)) = true := by simp; omega
    have e3 : (64 : Int) < (fs.length : Int) := by omega
    go_enter Tryd.func39, Tryd.ntmps39
    go_wp2_with (first | (rw [HE.out]) | (go_at_call 56; (with_reducible refine CN.out.mono ?_); rintro e w1 ⟨rfl, rfl⟩) | (fail))
    go_ret
    exact ⟨ret_bool HZ.out.symm, HB.out⟩
  have d3 : decide ((64 : Int) < (fs.length : Int)) = false := by simp; omega
  have e3 : (fs.length : Int) ≤ 64 := by omega
  by_cases h4 : 16 < ls.length
  · have HZ := Lib.hid (show goodA ⟨owner, version, fs, ls⟩ = false by rw [HG.out]; simp [show ¬ ls.length ≤ 16 by omega])
    have d4 : decide ((16 : Int) < (ls.length : Int)) = true := by simp; omega
    have e4 : (16 : Int) < (ls.length : Int) := by omega
    go_enter Tryd.func39, Tryd.ntmps39
    go_wp2_with (first | (rw [HE.out]) | (go_at_call 56; (with_reducible refine CN.out.mono ?_); rintro e w1 ⟨rfl, rfl⟩) | (fail))
    go_ret
    exact ⟨ret_bool HZ.out.symm, HB.out⟩
  have d4 : decide ((16 : Int) < (ls.length : Int)) = false := by simp; omega
  have e4 : (ls.length : Int) ≤ 16 := by omega
  have HG2 := Lib.hid (show goodA ⟨owner, version, fs, ls⟩ = (!(fs.any fun x => !filtB x) && !(ls.any (badL owner))) by
    rw [HG.out]
    simp only [HN.out, show 1 ≤ version by omega, show version ≤ 9007199254740992 by omega, show fs.length ≤ 64 by omega, show ls.length ≤ 16 by omega, decide_true, Bool.true_and])
  have CF := Lib.hid (con_str 57 #[] #[] (fun x => !filtB x) B _ fs Y (by omega) HAY.out.fs (enters_of Tryd.func57 (by kernel_rfl) rfl) (fun x hx W hW => good1_any x W (by have := HFT.out.fs x hx; omega) (HTY.out.below hW)))
  clear h1 h2 h3 h4 HG
  cases hbad : fs.any fun x => !filtB x
  · rw [hbad] at CF HG2
    have CL := fun W (hW : Below Y.heap.size Y W) => Lib.hid (con_lk 59 #[] #[.pointer (some ⟨w.heap.size, 0, none⟩)] (badL owner) B _ ls W (by omega) (HAY.out.ls.below hW) (enters_of Tryd.func59 (by kernel_rfl) rfl) (fun l hl W' hW' => good2_any w.heap.size owner l W' ((hW'.cell (p := ⟨w.heap.size, 0, none⟩) (Nat.lt_of_lt_of_le hwY hW.size)).trans ((hW.cell (p := ⟨w.heap.size, 0, none⟩) hwY).trans HK0.out)) (Nat.lt_of_lt_of_le hwY (Nat.le_trans hW.size hW'.size)) (HFT.out.ls l hl) (HTY.out.below (hW.trans (hW'.mono hW.size)))))
    obtain ⟨t, ht⟩ : ∃ t, ls.any (badL owner) = t := ⟨_, rfl⟩
    rw [ht] at HG2
    simp only [ht] at CL
    clear hbad ht
    go_enter Tryd.func39, Tryd.ntmps39
    go_wp2_with (first | (rw [HE.out]) | (go_at_call 56; (with_reducible refine CN.out.mono ?_); rintro e w1 ⟨rfl, rfl⟩) | (go_at_call 27; (with_reducible refine CF.out.mono ?_); rintro e w2 ⟨rfl, b2⟩; have l3 := (b2.cell (p := ⟨w.heap.size, 3, none⟩) hwY).trans k3; have CL2 := CL _ b2; have HB2 := Lib.hid b2; clear b2 CL) | (go_at_call 58; (with_reducible refine CL2.out.mono ?_); rintro e w3 ⟨rfl, b3⟩; have HB3 := Lib.hid (HB2.out.trans (b3.mono HB2.out.size)); clear b3) | (fail))
    go_ret
    exact ⟨ret_bool (by rw [HG2.out]; cases t <;> rfl), HB.out.trans (HB3.out.mono HB.out.size)⟩
  · rw [hbad] at CF HG2
    clear hbad
    go_enter Tryd.func39, Tryd.ntmps39
    go_wp2_with (first | (rw [HE.out]) | (go_at_call 56; (with_reducible refine CN.out.mono ?_); rintro e w1 ⟨rfl, rfl⟩) | (go_at_call 27; (with_reducible refine CF.out.mono ?_); rintro e w2 ⟨rfl, b2⟩; have HB2 := Lib.hid b2; clear b2) | (fail))
    go_ret
    exact ⟨ret_bool (by rw [HG2.out]; rfl), HB.out.trans (HB2.out.mono HB.out.size)⟩
end Go.Proofs.YtenoaonlngndpaaDoor
