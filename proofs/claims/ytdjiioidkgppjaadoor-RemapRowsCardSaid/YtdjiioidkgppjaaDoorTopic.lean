/- The walks of package topic's functions: sized, CheckName, CheckFilter, Levels, Join. -/
import Derived.Test.YtdjiioidkgppjaaDoorFault
import Derived.Test.YtdjiioidkgppjaaDoorTopicLaws
import Derived.Test.YtdjiioidkgppjaaDoorShelf
import Derived.Deep.QuietTactic
import Derived.BigQuiet
namespace Go.Proofs.YtdjiioidkgppjaaDoor
set_option linter.unusedVariables false
open Go.RowKit Pl Go.Shelf

theorem split_one (s : ByteArray) (w : World) (hs : s.size < 4294967281) :
    Calls Tryd.prog 44 #[.string s, .string ⟨#[47]⟩] w fun e w' =>
      e = .returned (.slice (some ⟨w.heap.size, 0, none⟩) (lev s.data.toList).length (lev s.data.toList).length) ∧ w' = w.alloc (.cells ((lev s.data.toList).map strV).toArray 9) := by
  have h1 : 1 ≤ (⟨#[47]⟩ : ByteArray).size := by decide
  have hle := Lib.countB_le ⟨#[47]⟩ h1 s.size s (Nat.le_refl _)
  have hlen := Lib.splitB_all ⟨#[47]⟩ h1 0 _ s rfl
  have c := Any.strings_genSplit_core (P := Tryd.prog) (ρ := Tryd.lays146_ren) { Tryd.lays146 with } (by kernel_rfl) s ⟨#[47]⟩ 0 (-1) (Lib.countB s ⟨#[47]⟩ + 1) w hs h1 (Nat.zero_le _)
    (fun x c _ => (Any.strings_Index_one { Tryd.lays146 with } x 47 _).mono fun e w' ⟨he, hw⟩ => ⟨by rw [he]; exact congrArg (fun n => Ending.returned (.int .i64 n)) (Lib.index_one x.data.toList 47).symm, hw⟩)
    ((Any.strings_Count_one { Tryd.lays146 with } s 47 w).mono fun e w' ⟨he, hw⟩ => ⟨by rw [he]; exact congrArg (fun n : Nat => Ending.returned (.int .i64 n)) (Lib.count_one 47 s.data.toList).symm, hw⟩)
    (by decide) (by decide) (by rw [if_pos (by decide)]; omega)
  rw [Nat.add_sub_cancel, hlen] at c
  have e2 : Lib.cellsOf (Lib.splitB ⟨#[47]⟩ 0 (Lib.countB s ⟨#[47]⟩) s) (Lib.countB s ⟨#[47]⟩ + 1) = ((lev s.data.toList).map strV).toArray := by
    rw [← hlen, Lib.cellsOf_full]
    have h := Lib.splitB_data ⟨#[47]⟩ 0 (Lib.countB s ⟨#[47]⟩) s
    have h2 := splitK_lev s.data.toList
    have h3 : (Lib.splitB ⟨#[47]⟩ 0 (Lib.countB s ⟨#[47]⟩) s).map (·.data.toList) = lev s.data.toList := h.trans h2
    rw [← h3, List.map_map]
    rfl
  have e1 : Lib.countB s ⟨#[47]⟩ + 1 = (lev s.data.toList).length := by
    rw [lev_len]
    exact congrArg (· + 1) (Lib.count_one 47 s.data.toList)
  rw [e2] at c
  rw [e1] at c
  have c' : Calls Tryd.prog 53 #[.string s, .string ⟨#[47]⟩, .int .i64 0, .int .i64 (-1)] w fun e w' =>
      e = .returned (.slice (some ⟨w.heap.size, 0, none⟩) (lev s.data.toList).length (lev s.data.toList).length) ∧ w' = w.alloc (.cells ((lev s.data.toList).map strV).toArray 9) := c
  have C := Lib.hid c'
  clear c c' e1 e2 hlen hle
  go_enter Tryd.func44, Tryd.ntmps44
  go_wp2_with fail
  refine C.out.mono ?_
  rintro e w' ⟨rfl, rfl⟩
  go_wp2
  go_ret
  exact ⟨rfl, rfl⟩

theorem levels_any (s : ByteArray) (w : World) (hs : s.size < 4294967281) :
    Calls Tryd.prog 34 #[.string s] w fun e w' =>
      e = .returned (.slice (some ⟨w.heap.size, 0, none⟩) (lev s.data.toList).length (lev s.data.toList).length) ∧ w' = w.alloc (.cells ((lev s.data.toList).map strV).toArray 9) := by
  go_enter Tryd.func34, Tryd.ntmps34
  go_wp2_with fail
  refine (split_one s _ hs).mono ?_
  rintro e w' ⟨rfl, rfl⟩
  go_wp2
  go_ret
  exact ⟨rfl, rfl⟩

theorem contains_any (s : ByteArray) (c : UInt8) (w : World) :
    Calls Tryd.prog 32 #[.string s, .string ⟨#[c]⟩] w fun e w' => e = .returned (.bool (has c s.data.toList)) ∧ w = w' :=
  (Tryd.strings_Contains_one s c w).mono fun e w' ⟨he, hw⟩ => ⟨by rw [he, ← contains_has]; unfold Lib.contains; rw [Lib.index_one], hw.symm⟩

theorem count_any (s : ByteArray) (w : World) :
    Calls Tryd.prog 42 #[.string s, .string ⟨#[47]⟩] w fun e w' => e = .returned (.int .i64 (s.data.toList.count 47 : Nat)) ∧ w = w' :=
  (Tryd.strings_Count_one s 47 w).mono fun e w' ⟨he, hw⟩ => ⟨by rw [he]; rfl, hw.symm⟩

theorem sized_any (s : ByteArray) (w : World) (hs : s.size ≤ 281474976710656) (hT : Tabs w) :
    Calls Tryd.prog 31 #[.string s] w fun e w' => e = .returned (.bool (szd s)) ∧ Below w.heap.size w w' := by
  obtain ⟨fa, fb, hf⟩ : ∃ fa fb, flt s s.size 0 = (fa, fb) := ⟨_, _, rfl⟩
  have Hf := Lib.hid hf
  have HT := Lib.hid hT
  cases fb
  · by_cases h0 : s.size = 0
    · have hz := Lib.hid (show szd s = false by unfold szd; rw [hf]; simp [h0])
      have he : s = ⟨#[]⟩ := ByteArray.ext (Array.eq_empty_of_size_eq_zero h0)
      have HE := Lib.hid he
      have hemp : s.toList.isEmpty = true := by rw [he, ByteArray.toList_eq]; rfl
      clear hf hT he h0
      go_enter Tryd.func31, Tryd.ntmps31
      go_wp2_with fail
      refine (fault_any s _ hs HT.out).mono ?_
      rintro e w1 ⟨rfl, b1⟩
      rw [Hf.out]
      go_wp2
      go_ret
      exact ⟨ret_bool hz.out.symm, b1⟩
    · have hemp : s.toList.isEmpty = false := by
        rw [ByteArray.toList_eq, List.isEmpty_eq_false_iff]
        intro hc
        exact h0 (congrArg List.length hc)
      have hpos : 0 < s.size := by omega
      by_cases h256 : s.size ≤ 256
      · have hl := lev_len s.data.toList
        obtain ⟨n, hn⟩ : ∃ n, s.data.toList.count 47 = n := ⟨_, rfl⟩
        rw [hn] at hl
        have hz := Lib.hid (show szd s = decide ((n : Int) < 32) by
          unfold szd
          rw [hf, hl]
          have : decide (n + 1 ≤ 32) = decide ((n : Int) < 32) := by congr 1; rw [eq_iff_iff]; omega
          rw [decide_eq_true hpos, decide_eq_true h256, this]
          rfl)
        have Hn := Lib.hid hn
        clear hf hT hl hn
        go_enter Tryd.func31, Tryd.ntmps31
        go_wp2_with fail
        refine (fault_any s _ hs HT.out).mono ?_
        rintro e w1 ⟨rfl, b1⟩
        rw [Hf.out]
        go_wp2_with fail
        refine (count_any s _).mono ?_
        rintro e w2 ⟨rfl, rfl⟩
        rw [Hn.out]
        go_wp2
        go_ret
        exact ⟨ret_bool hz.out.symm, b1⟩
      · have hz := Lib.hid (show szd s = false by unfold szd; rw [hf]; simp [h256])
        clear hf hT
        go_enter Tryd.func31, Tryd.ntmps31
        go_wp2_with fail
        refine (fault_any s _ hs HT.out).mono ?_
        rintro e w1 ⟨rfl, b1⟩
        rw [Hf.out]
        go_wp2
        go_ret
        exact ⟨ret_bool hz.out.symm, b1⟩
  · have hz := Lib.hid (show szd s = false by unfold szd; rw [hf]; simp)
    clear hf hT
    go_enter Tryd.func31, Tryd.ntmps31
    go_wp2_with fail
    refine (fault_any s _ hs HT.out).mono ?_
    rintro e w1 ⟨rfl, b1⟩
    rw [Hf.out]
    go_wp2
    go_ret
    exact ⟨ret_bool hz.out.symm, b1⟩

theorem checkname_any (s : ByteArray) (w : World) (hs : s.size ≤ 281474976710656) (hT : Tabs w) :
    Calls Tryd.prog 22 #[.string s] w fun e w' => e = .returned (.int .u8 (nameC s)) ∧ Below w.heap.size w w' := by
  have HT := Lib.hid hT
  clear hT
  obtain ⟨a, ha⟩ : ∃ a, szd s = a := ⟨_, rfl⟩
  obtain ⟨b, hb⟩ : ∃ b, has 43 s.data.toList = b := ⟨_, rfl⟩
  obtain ⟨c, hc⟩ : ∃ c, has 35 s.data.toList = c := ⟨_, rfl⟩
  have hz : nameC s = if a && (!b && !c) then 0 else 144 := by unfold nameC nameB; rw [ha, hb, hc]
  have Ha := Lib.hid ha
  have Hb := Lib.hid hb
  have Hc := Lib.hid hc
  have Hz := Lib.hid hz
  clear ha hb hc hz
  cases a
  · go_enter Tryd.func22, Tryd.ntmps22
    go_wp2_with fail
    refine (sized_any s _ hs HT.out).mono ?_
    rintro e w1 ⟨rfl, b1⟩
    rw [Ha.out]
    go_wp2
    go_ret
    exact ⟨ret_int (by rw [Hz.out]; rfl), b1⟩
  · cases b
    · cases c
      all_goals
        go_enter Tryd.func22, Tryd.ntmps22
        go_wp2_with fail
        refine (sized_any s _ hs HT.out).mono ?_
        rintro e w1 ⟨rfl, b1⟩
        rw [Ha.out]
        go_wp2_with fail
        refine (contains_any s 43 _).mono ?_
        rintro e w2 ⟨rfl, rfl⟩
        rw [Hb.out]
        go_wp2_with fail
        refine (contains_any s 35 _).mono ?_
        rintro e w2 ⟨rfl, rfl⟩
        rw [Hc.out]
        go_wp2
        go_ret
        exact ⟨ret_int (by rw [Hz.out]; rfl), b1⟩
    · go_enter Tryd.func22, Tryd.ntmps22
      go_wp2_with fail
      refine (sized_any s _ hs HT.out).mono ?_
      rintro e w1 ⟨rfl, b1⟩
      rw [Ha.out]
      go_wp2_with fail
      refine (contains_any s 43 _).mono ?_
      rintro e w2 ⟨rfl, rfl⟩
      rw [Hb.out]
      go_wp2
      go_ret
      exact ⟨ret_int (by rw [Hz.out]; rfl), b1⟩
end Go.Proofs.YtdjiioidkgppjaaDoor
