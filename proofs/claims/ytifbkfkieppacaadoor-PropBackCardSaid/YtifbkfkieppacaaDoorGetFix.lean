/- The walks of both GetFixed functions. -/
import Derived.Test.YtifbkfkieppacaaDoorFix
namespace Go.Proofs.YtifbkfkieppacaaDoor
open Go.RowKit Pl
open Go.PlainAid (bt bt_nonneg bt_le get_bt bt_end)

set_option maxRecDepth 100000 in
theorem getfixed_1 (s : ByteArray) (a : Nat) (w : World) (hs : s.size ≤ 140737488351232) (ha : a + 1 ≤ s.size) :
    Calls Tryd.prog 47 #[.string s, .int .i64 a, .int .i64 1] w fun e w' => e = .returned (.tuple #[.int .i64 (gv s a 1), .int .i64 (a + 1), .int .u8 0]) ∧ w = w' := by
  have hbt := get_bt s
  go_enter Tryd.func47, Tryd.ntmps47
  go_wp2
  go_loop [33, 9] (fun i v => ∃ k : Nat, i = .int .i64 k ∧ v = .int .i64 (gv s a k) ∧ k ≤ 1) (fun i _ => (1 - intOf i).toNat)
  case atStart => exact ⟨0, rfl, rfl, by omega⟩
  case round =>
    obtain ⟨k, rfl, rfl, hk⟩ := hrel
    by_cases hkw : k < 1
    · have hg0 := (gv_bd s a k).1
      have hg1 := gv_bd3 s a k (by omega)
      have hn := Lib.hid (show gv s a (k + 1) = gv s a k * 256 + bt s (a + k) from rfl)
      have hb0 := bt_nonneg s (a + k)
      have hb1 := bt_le s (a + k)
      have hor : bits .or .i64 (gv s a k * 256) (bt s (a + k)) = gv s a k * 256 + bt s (a + k) := by
        rw [show gv s a k * 256 = 2 ^ 8 * gv s a k from by omega]
        exact or_low 8 hb0 (by omega) hg0 (by omega)
      go_wp2
      go_round
      case rel => exact ⟨k + 1, by go_num, val_int hn.out.symm, by omega⟩
      case measure => simp [intOf]; omega
    · obtain rfl : k = 1 := by omega
      go_wp2
      go_ret3
      exact ⟨rfl, rfl⟩

set_option maxRecDepth 100000 in
theorem getfixed_2 (s : ByteArray) (a : Nat) (w : World) (hs : s.size ≤ 140737488351232) (ha : a + 2 ≤ s.size) :
    Calls Tryd.prog 47 #[.string s, .int .i64 a, .int .i64 2] w fun e w' => e = .returned (.tuple #[.int .i64 (gv s a 2), .int .i64 (a + 2), .int .u8 0]) ∧ w = w' := by
  have hbt := get_bt s
  go_enter Tryd.func47, Tryd.ntmps47
  go_wp2
  go_loop [33, 9] (fun i v => ∃ k : Nat, i = .int .i64 k ∧ v = .int .i64 (gv s a k) ∧ k ≤ 2) (fun i _ => (2 - intOf i).toNat)
  case atStart => exact ⟨0, rfl, rfl, by omega⟩
  case round =>
    obtain ⟨k, rfl, rfl, hk⟩ := hrel
    by_cases hkw : k < 2
    · have hg0 := (gv_bd s a k).1
      have hg1 := gv_bd3 s a k (by omega)
      have hn := Lib.hid (show gv s a (k + 1) = gv s a k * 256 + bt s (a + k) from rfl)
      have hb0 := bt_nonneg s (a + k)
      have hb1 := bt_le s (a + k)
      have hor : bits .or .i64 (gv s a k * 256) (bt s (a + k)) = gv s a k * 256 + bt s (a + k) := by
        rw [show gv s a k * 256 = 2 ^ 8 * gv s a k from by omega]
        exact or_low 8 hb0 (by omega) hg0 (by omega)
      go_wp2
      go_round
      case rel => exact ⟨k + 1, by go_num, val_int hn.out.symm, by omega⟩
      case measure => simp [intOf]; omega
    · obtain rfl : k = 2 := by omega
      go_wp2
      go_ret3
      exact ⟨rfl, rfl⟩

set_option maxRecDepth 100000 in
theorem getfixed_4 (s : ByteArray) (a : Nat) (w : World) (hs : s.size ≤ 140737488351232) (ha : a + 4 ≤ s.size) :
    Calls Tryd.prog 47 #[.string s, .int .i64 a, .int .i64 4] w fun e w' => e = .returned (.tuple #[.int .i64 (gv s a 4), .int .i64 (a + 4), .int .u8 0]) ∧ w = w' := by
  have hbt := get_bt s
  go_enter Tryd.func47, Tryd.ntmps47
  go_wp2
  go_loop [33, 9] (fun i v => ∃ k : Nat, i = .int .i64 k ∧ v = .int .i64 (gv s a k) ∧ k ≤ 4) (fun i _ => (4 - intOf i).toNat)
  case atStart => exact ⟨0, rfl, rfl, by omega⟩
  case round =>
    obtain ⟨k, rfl, rfl, hk⟩ := hrel
    by_cases hkw : k < 4
    · have hg0 := (gv_bd s a k).1
      have hg1 := gv_bd3 s a k (by omega)
      have hn := Lib.hid (show gv s a (k + 1) = gv s a k * 256 + bt s (a + k) from rfl)
      have hb0 := bt_nonneg s (a + k)
      have hb1 := bt_le s (a + k)
      have hor : bits .or .i64 (gv s a k * 256) (bt s (a + k)) = gv s a k * 256 + bt s (a + k) := by
        rw [show gv s a k * 256 = 2 ^ 8 * gv s a k from by omega]
        exact or_low 8 hb0 (by omega) hg0 (by omega)
      go_wp2
      go_round
      case rel => exact ⟨k + 1, by go_num, val_int hn.out.symm, by omega⟩
      case measure => simp [intOf]; omega
    · obtain rfl : k = 4 := by omega
      go_wp2
      go_ret3
      exact ⟨rfl, rfl⟩

set_option maxRecDepth 100000 in
theorem getfixed_all (s : ByteArray) (at_ d : Int) (w : World) (hs : s.size ≤ 140737488351232) (h0 : -9223372036854775808 ≤ at_) (h1 : at_ ≤ 9223372036854775807) :
    Calls Tryd.prog 47 #[.string s, .int .i64 at_, .int .i64 d] w fun e w' => e = .returned (.tuple #[.int .i64 (getF s at_ d).1, .int .i64 (getF s at_ d).2.1, .int .u8 (getF s at_ d).2.2]) ∧ w = w' := by
  by_cases hw : Wide d
  · by_cases hb : at_ < 0 ∨ (s.size : Int) < at_
    · have hg := Lib.hid (getF_bad (s := s) (at_ := at_) (w := d) (.inr hb))
      rcases hw with rfl | rfl | rfl
      all_goals
        go_enter Tryd.func47, Tryd.ntmps47
        go_wp2
        all_goals go_ret3
        all_goals exact ⟨ret_getf hg.out, rfl⟩
    · obtain ⟨a, rfl⟩ := Int.eq_ofNat_of_zero_le (show 0 ≤ at_ by omega)
      by_cases hr : (s.size : Int) - a < d
      · have hg := Lib.hid (getF_none (s := s) (at_ := a) (w := d) (by rintro (h | h); exact h hw; exact hb h) hr)
        have ha : a ≤ s.size := by omega
        clear hb
        rcases hw with rfl | rfl | rfl
        all_goals
          go_enter Tryd.func47, Tryd.ntmps47
          go_wp2
          all_goals go_ret3
          all_goals exact ⟨ret_getf hg.out, rfl⟩
      · rw [getF_ok hw (by omega)]
        rcases hw with rfl | rfl | rfl
        · exact getfixed_1 s a w hs (by omega)
        · exact getfixed_2 s a w hs (by omega)
        · exact getfixed_4 s a w hs (by omega)
  · have hg := Lib.hid (getF_bad (s := s) (at_ := at_) (w := d) (.inl hw))
    have h1 : (d == 1) = false := by rw [beq_eq_false_iff_ne]; rintro rfl; exact hw (.inl rfl)
    have h2 : (d == 2) = false := by rw [beq_eq_false_iff_ne]; rintro rfl; exact hw (.inr (.inl rfl))
    have h4 : (d == 4) = false := by rw [beq_eq_false_iff_ne]; rintro rfl; exact hw (.inr (.inr rfl))
    clear hw
    go_enter Tryd.func47, Tryd.ntmps47
    go_wp2
    all_goals go_ret3
    all_goals exact ⟨ret_getf hg.out, rfl⟩

set_option maxRecDepth 100000 in
theorem refgetfixed_1 (s : ByteArray) (a : Nat) (w : World) (hs : s.size ≤ 140737488351232) (ha : a + 1 ≤ s.size) :
    Calls Tryd.prog 50 #[.string s, .int .i64 a, .int .i64 1] w fun e w' => e = .returned (.tuple #[.int .i64 (gv s a 1), .int .i64 (a + 1), .int .i64 0]) ∧ w = w' := by
  have hbt := get_bt s
  go_enter Tryd.func50, Tryd.ntmps50
  go_wp2
  go_loop [11, 10] (fun i v => ∃ k : Nat, i = .int .i64 k ∧ v = .int .i64 (gv s a k) ∧ k ≤ 1) (fun i _ => (1 - intOf i).toNat)
  case atStart => exact ⟨0, rfl, rfl, by omega⟩
  case round =>
    obtain ⟨k, rfl, rfl, hk⟩ := hrel
    by_cases hkw : k < 1
    · have hg0 := (gv_bd s a k).1
      have hg1 := gv_bd3 s a k (by omega)
      have hn := Lib.hid (show gv s a (k + 1) = gv s a k * 256 + bt s (a + k) from rfl)
      have hb0 := bt_nonneg s (a + k)
      have hb1 := bt_le s (a + k)
      go_wp2
      go_round
      case rel => exact ⟨k + 1, by go_num, val_int hn.out.symm, by omega⟩
      case measure => simp [intOf]; omega
    · obtain rfl : k = 1 := by omega
      go_wp2
      go_ret3
      exact ⟨rfl, rfl⟩

set_option maxRecDepth 100000 in
theorem refgetfixed_2 (s : ByteArray) (a : Nat) (w : World) (hs : s.size ≤ 140737488351232) (ha : a + 2 ≤ s.size) :
    Calls Tryd.prog 50 #[.string s, .int .i64 a, .int .i64 2] w fun e w' => e = .returned (.tuple #[.int .i64 (gv s a 2), .int .i64 (a + 2), .int .i64 0]) ∧ w = w' := by
  have hbt := get_bt s
  go_enter Tryd.func50, Tryd.ntmps50
  go_wp2
  go_loop [11, 10] (fun i v => ∃ k : Nat, i = .int .i64 k ∧ v = .int .i64 (gv s a k) ∧ k ≤ 2) (fun i _ => (2 - intOf i).toNat)
  case atStart => exact ⟨0, rfl, rfl, by omega⟩
  case round =>
    obtain ⟨k, rfl, rfl, hk⟩ := hrel
    by_cases hkw : k < 2
    · have hg0 := (gv_bd s a k).1
      have hg1 := gv_bd3 s a k (by omega)
      have hn := Lib.hid (show gv s a (k + 1) = gv s a k * 256 + bt s (a + k) from rfl)
      have hb0 := bt_nonneg s (a + k)
      have hb1 := bt_le s (a + k)
      go_wp2
      go_round
      case rel => exact ⟨k + 1, by go_num, val_int hn.out.symm, by omega⟩
      case measure => simp [intOf]; omega
    · obtain rfl : k = 2 := by omega
      go_wp2
      go_ret3
      exact ⟨rfl, rfl⟩

set_option maxRecDepth 100000 in
theorem refgetfixed_4 (s : ByteArray) (a : Nat) (w : World) (hs : s.size ≤ 140737488351232) (ha : a + 4 ≤ s.size) :
    Calls Tryd.prog 50 #[.string s, .int .i64 a, .int .i64 4] w fun e w' => e = .returned (.tuple #[.int .i64 (gv s a 4), .int .i64 (a + 4), .int .i64 0]) ∧ w = w' := by
  have hbt := get_bt s
  go_enter Tryd.func50, Tryd.ntmps50
  go_wp2
  go_loop [11, 10] (fun i v => ∃ k : Nat, i = .int .i64 k ∧ v = .int .i64 (gv s a k) ∧ k ≤ 4) (fun i _ => (4 - intOf i).toNat)
  case atStart => exact ⟨0, rfl, rfl, by omega⟩
  case round =>
    obtain ⟨k, rfl, rfl, hk⟩ := hrel
    by_cases hkw : k < 4
    · have hg0 := (gv_bd s a k).1
      have hg1 := gv_bd3 s a k (by omega)
      have hn := Lib.hid (show gv s a (k + 1) = gv s a k * 256 + bt s (a + k) from rfl)
      have hb0 := bt_nonneg s (a + k)
      have hb1 := bt_le s (a + k)
      go_wp2
      go_round
      case rel => exact ⟨k + 1, by go_num, val_int hn.out.symm, by omega⟩
      case measure => simp [intOf]; omega
    · obtain rfl : k = 4 := by omega
      go_wp2
      go_ret3
      exact ⟨rfl, rfl⟩

set_option maxRecDepth 100000 in
theorem refgetfixed_all (s : ByteArray) (at_ d : Int) (w : World) (hs : s.size ≤ 140737488351232) (h0 : -9223372036854775808 ≤ at_) (h1 : at_ ≤ 9223372036854775807) :
    Calls Tryd.prog 50 #[.string s, .int .i64 at_, .int .i64 d] w fun e w' => e = .returned (.tuple #[.int .i64 (getF s at_ d).1, .int .i64 (getF s at_ d).2.1, .int .i64 (getF s at_ d).2.2]) ∧ w = w' := by
  by_cases hw : Wide d
  · by_cases hb : at_ < 0 ∨ (s.size : Int) < at_
    · have hg := Lib.hid (getF_bad (s := s) (at_ := at_) (w := d) (.inr hb))
      rcases hw with rfl | rfl | rfl
      all_goals
        go_enter Tryd.func50, Tryd.ntmps50
        go_wp2
        all_goals go_ret3
        all_goals exact ⟨ret_getf hg.out, rfl⟩
    · obtain ⟨a, rfl⟩ := Int.eq_ofNat_of_zero_le (show 0 ≤ at_ by omega)
      by_cases hr : (s.size : Int) - a < d
      · have hg := Lib.hid (getF_none (s := s) (at_ := a) (w := d) (by rintro (h | h); exact h hw; exact hb h) hr)
        have ha : a ≤ s.size := by omega
        clear hb
        rcases hw with rfl | rfl | rfl
        all_goals
          go_enter Tryd.func50, Tryd.ntmps50
          go_wp2
          all_goals go_ret3
          all_goals exact ⟨ret_getf hg.out, rfl⟩
      · rw [getF_ok hw (by omega)]
        rcases hw with rfl | rfl | rfl
        · exact refgetfixed_1 s a w hs (by omega)
        · exact refgetfixed_2 s a w hs (by omega)
        · exact refgetfixed_4 s a w hs (by omega)
  · have hg := Lib.hid (getF_bad (s := s) (at_ := at_) (w := d) (.inl hw))
    have h1 : (d == 1) = false := by rw [beq_eq_false_iff_ne]; rintro rfl; exact hw (.inl rfl)
    have h2 : (d == 2) = false := by rw [beq_eq_false_iff_ne]; rintro rfl; exact hw (.inr (.inl rfl))
    have h4 : (d == 4) = false := by rw [beq_eq_false_iff_ne]; rintro rfl; exact hw (.inr (.inr rfl))
    clear hw
    go_enter Tryd.func50, Tryd.ntmps50
    go_wp2
    all_goals go_ret3
    all_goals exact ⟨ret_getf hg.out, rfl⟩
end Go.Proofs.YtifbkfkieppacaaDoor
