/- Parts of the proof, joined: GetFix, DataPlain, Data, TextPut, VarPlain, VarSize, VarPut, PutP, VarGet, GetP, AllowPlain, PkP. -/
import Derived.Test.YtedapgeabpadaaaDoorJ6P1
import Derived.Test.YtedapgeabpadaaaDoorRows
import Derived.WalkKit
import Derived.WalkLawsBesides
import Derived.WalkSpells
import Derived.Handy
import Derived.Lib.Hide
namespace Go.Proofs.YtedapgeabpadaaaDoor
open Go.RowKit Pl
open Go.PlainAid (bt bt_nonneg bt_le get_bt bt_end)

set_option maxRecDepth 100000 in
theorem getfixed_1 (s : ByteArray) (a : Nat) (w : World) (hs : s.size ≤ 140737488351232) (ha : a + 1 ≤ s.size) :
    Calls Tryd.prog 79 #[.string s, .int .i64 a, .int .i64 1] w fun e w' => e = .returned (.tuple #[.int .i64 (gv s a 1), .int .i64 (a + 1), .int .u8 0]) ∧ w = w' := by
  have hbt := get_bt s
  go_enter Tryd.func79, Tryd.ntmps79
  go_wp2
  go_loop [33, 9] (fun i v => ∃ k : Nat, i = .int .i64 k ∧ v = .int .i64 (gv s a k) ∧ k ≤ 1) (fun i _ => (1 - intOf i).toNat)
  case atStart => exact ⟨0, rfl, rfl, by omega⟩
  case round =>
    obtain ⟨k, rfl, rfl, hk⟩ := hrel
    by_cases hkw : k < 1
    · have hg0 := (gv_bd s a k).1
      have hg1 := gv_bd3 s a k (by omega)
      have hn := Lib.hid (show gv s a (k + 1) = gv s a k * 256 + bt s (a + k) from rfl)
      have hb0 := bt_nonneg s (a + k)
      have hb1 := bt_le s (a + k)
      have hor : bits .or .i64 (gv s a k * 256) (bt s (a + k)) = gv s a k * 256 + bt s (a + k) := by
        rw [show gv s a k * 256 = 2 ^ 8 * gv s a k from by omega]
        exact or_low 8 hb0 (by omega) hg0 (by omega)
      go_wp2
      go_round
      case rel => exact ⟨k + 1, by go_num, val_int hn.out.symm, by omega⟩
      case measure => simp [intOf]; omega
    · obtain rfl : k = 1 := by omega
      go_wp2
      go_ret3
      exact ⟨rfl, rfl⟩

set_option maxRecDepth 100000 in
theorem getfixed_2 (s : ByteArray) (a : Nat) (w : World) (hs : s.size ≤ 140737488351232) (ha : a + 2 ≤ s.size) :
    Calls Tryd.prog 79 #[.string s, .int .i64 a, .int .i64 2] w fun e w' => e = .returned (.tuple #[.int .i64 (gv s a 2), .int .i64 (a + 2), .int .u8 0]) ∧ w = w' := by
  have hbt := get_bt s
  go_enter Tryd.func79, Tryd.ntmps79
  go_wp2
  go_loop [33, 9] (fun i v => ∃ k : Nat, i = .int .i64 k ∧ v = .int .i64 (gv s a k) ∧ k ≤ 2) (fun i _ => (2 - intOf i).toNat)
  case atStart => exact ⟨0, rfl, rfl, by omega⟩
  case round =>
    obtain ⟨k, rfl, rfl, hk⟩ := hrel
    by_cases hkw : k < 2
    · have hg0 := (gv_bd s a k).1
      have hg1 := gv_bd3 s a k (by omega)
      have hn := Lib.hid (show gv s a (k + 1) = gv s a k * 256 + bt s (a + k) from rfl)
      have hb0 := bt_nonneg s (a + k)
      have hb1 := bt_le s (a + k)
      have hor : bits .or .i64 (gv s a k * 256) (bt s (a + k)) = gv s a k * 256 + bt s (a + k) := by
        rw [show gv s a k * 256 = 2 ^ 8 * gv s a k from by omega]
        exact or_low 8 hb0 (by omega) hg0 (by omega)
      go_wp2
      go_round
      case rel => exact ⟨k + 1, by go_num, val_int hn.out.symm, by omega⟩
      case measure => simp [intOf]; omega
    · obtain rfl : k = 2 := by omega
      go_wp2
      go_ret3
      exact ⟨rfl, rfl⟩

set_option maxRecDepth 100000 in
theorem getfixed_4 (s : ByteArray) (a : Nat) (w : World) (hs : s.size ≤ 140737488351232) (ha : a + 4 ≤ s.size) :
    Calls Tryd.prog 79 #[.string s, .int .i64 a, .int .i64 4] w fun e w' => e = .returned (.tuple #[.int .i64 (gv s a 4), .int .i64 (a + 4), .int .u8 0]) ∧ w = w' := by
  have hbt := get_bt s
  go_enter Tryd.func79, Tryd.ntmps79
  go_wp2
  go_loop [33, 9] (fun i v => ∃ k : Nat, i = .int .i64 k ∧ v = .int .i64 (gv s a k) ∧ k ≤ 4) (fun i _ => (4 - intOf i).toNat)
  case atStart => exact ⟨0, rfl, rfl, by omega⟩
  case round =>
    obtain ⟨k, rfl, rfl, hk⟩ := hrel
    by_cases hkw : k < 4
    · have hg0 := (gv_bd s a k).1
      have hg1 := gv_bd3 s a k (by omega)
      have hn := Lib.hid (show gv s a (k + 1) = gv s a k * 256 + bt s (a + k) from rfl)
      have hb0 := bt_nonneg s (a + k)
      have hb1 := bt_le s (a + k)
      have hor : bits .or .i64 (gv s a k * 256) (bt s (a + k)) = gv s a k * 256 + bt s (a + k) := by
        rw [show gv s a k * 256 = 2 ^ 8 * gv s a k from by omega]
        exact or_low 8 hb0 (by omega) hg0 (by omega)
      go_wp2
      go_round
      case rel => exact ⟨k + 1, by go_num, val_int hn.out.symm, by omega⟩
      case measure => simp [intOf]; omega
    · obtain rfl : k = 4 := by omega
      go_wp2
      go_ret3
      exact ⟨rfl, rfl⟩

set_option maxRecDepth 100000 in
theorem getfixed_all (s : ByteArray) (at_ d : Int) (w : World) (hs : s.size ≤ 140737488351232) (h0 : -9223372036854775808 ≤ at_) (h1 : at_ ≤ 9223372036854775807) :
    Calls Tryd.prog 79 #[.string s, .int .i64 at_, .int .i64 d] w fun e w' => e = .returned (.tuple #[.int .i64 (getF s at_ d).1, .int .i64 (getF s at_ d).2.1, .int .u8 (getF s at_ d).2.2]) ∧ w = w' := by
  by_cases hw : Wide d
  · by_cases hb : at_ < 0 ∨ (s.size : Int) < at_
    · have hg := Lib.hid (getF_bad (s := s) (at_ := at_) (w := d) (.inr hb))
      rcases hw with rfl | rfl | rfl
      all_goals
        go_enter Tryd.func79, Tryd.ntmps79
        go_wp2
        all_goals go_ret3
        all_goals exact ⟨ret_getf hg.out, rfl⟩
    · obtain ⟨a, rfl⟩ := Int.eq_ofNat_of_zero_le (show 0 ≤ at_ by omega)
      by_cases hr : (s.size : Int) - a < d
      · have hg := Lib.hid (getF_none (s := s) (at_ := a) (w := d) (by rintro (h | h); exact h hw; exact hb h) hr)
        have ha : a ≤ s.size := by omega
        clear hb
        rcases hw with rfl | rfl | rfl
        all_goals
          go_enter Tryd.func79, Tryd.ntmps79
          go_wp2
          all_goals go_ret3
          all_goals exact ⟨ret_getf hg.out, rfl⟩
      · rw [getF_ok hw (by omega)]
        rcases hw with rfl | rfl | rfl
        · exact getfixed_1 s a w hs (by omega)
        · exact getfixed_2 s a w hs (by omega)
        · exact getfixed_4 s a w hs (by omega)
  · have hg := Lib.hid (getF_bad (s := s) (at_ := at_) (w := d) (.inl hw))
    have h1 : (d == 1) = false := by rw [beq_eq_false_iff_ne]; rintro rfl; exact hw (.inl rfl)
    have h2 : (d == 2) = false := by rw [beq_eq_false_iff_ne]; rintro rfl; exact hw (.inr (.inl rfl))
    have h4 : (d == 4) = false := by rw [beq_eq_false_iff_ne]; rintro rfl; exact hw (.inr (.inr rfl))
    clear hw
    go_enter Tryd.func79, Tryd.ntmps79
    go_wp2
    all_goals go_ret3
    all_goals exact ⟨ret_getf hg.out, rfl⟩

set_option maxRecDepth 100000 in
theorem refgetfixed_1 (s : ByteArray) (a : Nat) (w : World) (hs : s.size ≤ 140737488351232) (ha : a + 1 ≤ s.size) :
    Calls Tryd.prog 85 #[.string s, .int .i64 a, .int .i64 1] w fun e w' => e = .returned (.tuple #[.int .i64 (gv s a 1), .int .i64 (a + 1), .int .i64 0]) ∧ w = w' := by
  have hbt := get_bt s
  go_enter Tryd.func85, Tryd.ntmps85
  go_wp2
  go_loop [11, 10] (fun i v => ∃ k : Nat, i = .int .i64 k ∧ v = .int .i64 (gv s a k) ∧ k ≤ 1) (fun i _ => (1 - intOf i).toNat)
  case atStart => exact ⟨0, rfl, rfl, by omega⟩
  case round =>
    obtain ⟨k, rfl, rfl, hk⟩ := hrel
    by_cases hkw : k < 1
    · have hg0 := (gv_bd s a k).1
      have hg1 := gv_bd3 s a k (by omega)
      have hn := Lib.hid (show gv s a (k + 1) = gv s a k * 256 + bt s (a + k) from rfl)
      have hb0 := bt_nonneg s (a + k)
      have hb1 := bt_le s (a + k)
      go_wp2
      go_round
      case rel => exact ⟨k + 1, by go_num, val_int hn.out.symm, by omega⟩
      case measure => simp [intOf]; omega
    · obtain rfl : k = 1 := by omega
      go_wp2
      go_ret3
      exact ⟨rfl, rfl⟩

set_option maxRecDepth 100000 in
theorem refgetfixed_2 (s : ByteArray) (a : Nat) (w : World) (hs : s.size ≤ 140737488351232) (ha : a + 2 ≤ s.size) :
    Calls Tryd.prog 85 #[.string s, .int .i64 a, .int .i64 2] w fun e w' => e = .returned (.tuple #[.int .i64 (gv s a 2), .int .i64 (a + 2), .int .i64 0]) ∧ w = w' := by
  have hbt := get_bt s
  go_enter Tryd.func85, Tryd.ntmps85
  go_wp2
  go_loop [11, 10] (fun i v => ∃ k : Nat, i = .int .i64 k ∧ v = .int .i64 (gv s a k) ∧ k ≤ 2) (fun i _ => (2 - intOf i).toNat)
  case atStart => exact ⟨0, rfl, rfl, by omega⟩
  case round =>
    obtain ⟨k, rfl, rfl, hk⟩ := hrel
    by_cases hkw : k < 2
    · have hg0 := (gv_bd s a k).1
      have hg1 := gv_bd3 s a k (by omega)
      have hn := Lib.hid (show gv s a (k + 1) = gv s a k * 256 + bt s (a + k) from rfl)
      have hb0 := bt_nonneg s (a + k)
      have hb1 := bt_le s (a + k)
      go_wp2
      go_round
      case rel => exact ⟨k + 1, by go_num, val_int hn.out.symm, by omega⟩
      case measure => simp [intOf]; omega
    · obtain rfl : k = 2 := by omega
      go_wp2
      go_ret3
      exact ⟨rfl, rfl⟩

set_option maxRecDepth 100000 in
theorem refgetfixed_4 (s : ByteArray) (a : Nat) (w : World) (hs : s.size ≤ 140737488351232) (ha : a + 4 ≤ s.size) :
    Calls Tryd.prog 85 #[.string s, .int .i64 a, .int .i64 4] w fun e w' => e = .returned (.tuple #[.int .i64 (gv s a 4), .int .i64 (a + 4), .int .i64 0]) ∧ w = w' := by
  have hbt := get_bt s
  go_enter Tryd.func85, Tryd.ntmps85
  go_wp2
  go_loop [11, 10] (fun i v => ∃ k : Nat, i = .int .i64 k ∧ v = .int .i64 (gv s a k) ∧ k ≤ 4) (fun i _ => (4 - intOf i).toNat)
  case atStart => exact ⟨0, rfl, rfl, by omega⟩
  case round =>
    obtain ⟨k, rfl, rfl, hk⟩ := hrel
    by_cases hkw : k < 4
    · have hg0 := (gv_bd s a k).1
      have hg1 := gv_bd3 s a k (by omega)
      have hn := Lib.hid (show gv s a (k + 1) = gv s a k * 256 + bt s (a + k) from rfl)
      have hb0 := bt_nonneg s (a + k)
      have hb1 := bt_le s (a + k)
      go_wp2
      go_round
      case rel => exact ⟨k + 1, by go_num, val_int hn.out.symm, by omega⟩
      case measure => simp [intOf]; omega
    · obtain rfl : k = 4 := by omega
      go_wp2
      go_ret3
      exact ⟨rfl, rfl⟩

set_option maxRecDepth 100000 in
theorem refgetfixed_all (s : ByteArray) (at_ d : Int) (w : World) (hs : s.size ≤ 140737488351232) (h0 : -9223372036854775808 ≤ at_) (h1 : at_ ≤ 9223372036854775807) :
    Calls Tryd.prog 85 #[.string s, .int .i64 at_, .int .i64 d] w fun e w' => e = .returned (.tuple #[.int .i64 (getF s at_ d).1, .int .i64 (getF s at_ d).2.1, .int .i64 (getF s at_ d).2.2]) ∧ w = w' := by
  by_cases hw : Wide d
  · by_cases hb : at_ < 0 ∨ (s.size : Int) < at_
    · have hg := Lib.hid (getF_bad (s := s) (at_ := at_) (w := d) (.inr hb))
      rcases hw with rfl | rfl | rfl
      all_goals
        go_enter Tryd.func85, Tryd.ntmps85
        go_wp2
        all_goals go_ret3
        all_goals exact ⟨ret_getf hg.out, rfl⟩
    · obtain ⟨a, rfl⟩ := Int.eq_ofNat_of_zero_le (show 0 ≤ at_ by omega)
      by_cases hr : (s.size : Int) - a < d
      · have hg := Lib.hid (getF_none (s := s) (at_ := a) (w := d) (by rintro (h | h); exact h hw; exact hb h) hr)
        have ha : a ≤ s.size := by omega
        clear hb
        rcases hw with rfl | rfl | rfl
        all_goals
          go_enter Tryd.func85, Tryd.ntmps85
          go_wp2
          all_goals go_ret3
          all_goals exact ⟨ret_getf hg.out, rfl⟩
      · rw [getF_ok hw (by omega)]
        rcases hw with rfl | rfl | rfl
        · exact refgetfixed_1 s a w hs (by omega)
        · exact refgetfixed_2 s a w hs (by omega)
        · exact refgetfixed_4 s a w hs (by omega)
  · have hg := Lib.hid (getF_bad (s := s) (at_ := at_) (w := d) (.inl hw))
    have h1 : (d == 1) = false := by rw [beq_eq_false_iff_ne]; rintro rfl; exact hw (.inl rfl)
    have h2 : (d == 2) = false := by rw [beq_eq_false_iff_ne]; rintro rfl; exact hw (.inr (.inl rfl))
    have h4 : (d == 4) = false := by rw [beq_eq_false_iff_ne]; rintro rfl; exact hw (.inr (.inr rfl))
    clear hw
    go_enter Tryd.func85, Tryd.ntmps85
    go_wp2
    all_goals go_ret3
    all_goals exact ⟨ret_getf hg.out, rfl⟩
end Go.Proofs.YtedapgeabpadaaaDoor

namespace Go.Proofs.YtedapgeabpadaaaDoor.Pl
open Go.PlainAid (bt bt_nonneg bt_le get_bt bt_end)

def dataC (s : ByteArray) : Int := if 65535 < s.size then 149 else 0
def dataS (s : ByteArray) : ByteArray := if 65535 < s.size then ⟨#[]⟩ else ⟨(fixS 2 s.size).toArray⟩ ++ s
theorem data_ok {s : ByteArray} (h : ¬ 65535 < s.size) : dataC s = 0 ∧ dataS s = ⟨(fixS 2 s.size).toArray⟩ ++ s := by unfold dataC dataS; rw [if_neg h, if_neg h]; exact ⟨rfl, rfl⟩
theorem fixS_len (d n : Int) : (fixS d n).length ≤ d.toNat := by
  unfold fixS
  split
  · rw [fb_length]; omega
  · simp
/-- The data at a place: the data, the place behind it, the code. -/
def getD (s : ByteArray) (at_ : Int) : ByteArray × Int × Int :=
  if (getF s at_ 2).2.2 ≠ 0 then (⟨#[]⟩, 0, (getF s at_ 2).2.2)
  else if (s.size : Int) - (getF s at_ 2).2.1 < (getF s at_ 2).1 then (⟨#[]⟩, 0, 242)
  else (s.extract (getF s at_ 2).2.1.toNat ((getF s at_ 2).2.1 + (getF s at_ 2).1).toNat, (getF s at_ 2).2.1 + (getF s at_ 2).1, 0)
/-- What may come of the two bytes ahead. -/
theorem getF_two (s : ByteArray) (at_ : Int) : (getF s at_ 2 = (0, 0, 128)) ∨ (getF s at_ 2 = (0, 0, 242)) ∨ ∃ a m : Nat, at_ = a ∧ getF s at_ 2 = ((m : Int), ((a + 2 : Nat) : Int), 0) ∧ m < 65536 ∧ a + 2 ≤ s.size := by
  by_cases h : ¬ Wide 2 ∨ at_ < 0 ∨ (s.size : Int) < at_
  · exact .inl (getF_bad h)
  · by_cases h2 : (s.size : Int) - at_ < 2
    · exact .inr (.inl (getF_none h h2))
    · have h0 : 0 ≤ at_ := by
        by_cases h3 : at_ < 0
        · exact absurd (.inr (.inl h3)) h
        · omega
      obtain ⟨a, rfl⟩ := Int.eq_ofNat_of_zero_le h0
      have hb := gv_bd s a 2
      obtain ⟨m, hm⟩ := Int.eq_ofNat_of_zero_le hb.1
      refine .inr (.inr ⟨a, m, rfl, ?_, ?_, by omega⟩)
      · rw [getF_ok (.inr (.inl rfl)) (by omega)]
        show (gv s a 2, (a : Int) + 2, (0 : Int)) = _
        rw [hm]
        simp
      · have := hb.2
        rw [hm] at this
        simp at this
        omega
theorem getD_code {s : ByteArray} {at_ n f c : Int} (h : getF s at_ 2 = (n, f, c)) (hc : c ≠ 0) : getD s at_ = (⟨#[]⟩, 0, c) := by unfold getD; rw [h]; simp [hc]
theorem getD_none {s : ByteArray} {at_ n f : Int} (h : getF s at_ 2 = (n, f, 0)) (hn : (s.size : Int) - f < n) : getD s at_ = (⟨#[]⟩, 0, 242) := by unfold getD; rw [h]; simp [hn]
theorem getD_ok {s : ByteArray} {at_ : Int} {m f : Nat} (h : getF s at_ 2 = ((m : Int), (f : Int), 0)) (hn : f + m ≤ s.size) : getD s at_ = (s.extract f (f + m), (f : Int) + m, 0) := by
  unfold getD
  rw [h]
  have : ¬ ((s.size : Int) - f < m) := by omega
  simp only [ne_eq, not_true_eq_false, if_false, this]
  congr 2
end Go.Proofs.YtedapgeabpadaaaDoor.Pl

namespace Go.Proofs.YtedapgeabpadaaaDoor
open Go.RowKit Pl
open Go.PlainAid (bt bt_nonneg bt_le get_bt bt_end)

theorem ret_getd {k : IntKind} {p : ByteArray × Int × Int} {x : ByteArray} {y z : Int} (h : p = (x, y, z)) :
    Ending.returned (.tuple #[.string x, .int .i64 y, .int k z]) = .returned (.tuple #[.string p.1, .int .i64 p.2.1, .int k p.2.2]) := by rw [h]

set_option maxRecDepth 100000 in
theorem getdata_all (s : ByteArray) (at_ : Int) (w : World) (hs : s.size ≤ 140737488351232) (h0 : -9223372036854775808 ≤ at_) (h1 : at_ ≤ 9223372036854775807) :
    Calls Tryd.prog 98 #[.string s, .int .i64 at_] w fun e w' => e = .returned (.tuple #[.string (getD s at_).1, .int .i64 (getD s at_).2.1, .int .u8 (getD s at_).2.2]) ∧ w = w' := by
  rcases getF_two s at_ with hg | hg | ⟨a, m, rfl, hg, hm, ha⟩
  · have hd := Lib.hid (getD_code hg (by decide))
    go_enter Tryd.func98, Tryd.ntmps98
    go_wp2_with fail
    refine (getfixed_all s at_ 2 _ hs h0 h1).mono ?_
    rintro e w1 ⟨rfl, rfl⟩
    rw [hg]
    clear hg
    go_wp2
    go_ret3
    exact ⟨ret_getd hd.out, rfl⟩
  · have hd := Lib.hid (getD_code hg (by decide))
    go_enter Tryd.func98, Tryd.ntmps98
    go_wp2_with fail
    refine (getfixed_all s at_ 2 _ hs h0 h1).mono ?_
    rintro e w1 ⟨rfl, rfl⟩
    rw [hg]
    clear hg
    go_wp2
    go_ret3
    exact ⟨ret_getd hd.out, rfl⟩
  · by_cases hn : a + 2 + m ≤ s.size
    · have hd := Lib.hid (getD_ok hg hn)
      have hg' := Lib.hid hg
      clear hg
      go_enter Tryd.func98, Tryd.ntmps98
      go_wp2_with fail
      refine (getfixed_all s a 2 _ hs h0 h1).mono ?_
      rintro e w1 ⟨rfl, rfl⟩
      rw [hg'.out]
      go_wp2
      go_ret3
      exact ⟨ret_getd hd.out, rfl⟩
    · have hd := Lib.hid (getD_none hg (by omega))
      have hg' := Lib.hid hg
      clear hg
      go_enter Tryd.func98, Tryd.ntmps98
      go_wp2_with fail
      refine (getfixed_all s a 2 _ hs h0 h1).mono ?_
      rintro e w1 ⟨rfl, rfl⟩
      rw [hg'.out]
      go_wp2
      go_ret3
      exact ⟨ret_getd hd.out, rfl⟩

set_option maxRecDepth 100000 in
theorem refgetdata_all (s : ByteArray) (at_ : Int) (w : World) (hs : s.size ≤ 140737488351232) (h0 : -9223372036854775808 ≤ at_) (h1 : at_ ≤ 9223372036854775807) :
    Calls Tryd.prog 102 #[.string s, .int .i64 at_] w fun e w' => e = .returned (.tuple #[.string (getD s at_).1, .int .i64 (getD s at_).2.1, .int .i64 (getD s at_).2.2]) ∧ w = w' := by
  rcases getF_two s at_ with hg | hg | ⟨a, m, rfl, hg, hm, ha⟩
  · have hd := Lib.hid (getD_code hg (by decide))
    go_enter Tryd.func102, Tryd.ntmps102
    go_wp2_with fail
    refine (refgetfixed_all s at_ 2 _ hs h0 h1).mono ?_
    rintro e w1 ⟨rfl, rfl⟩
    rw [hg]
    clear hg
    go_wp2
    go_ret3
    exact ⟨ret_getd hd.out, rfl⟩
  · have hd := Lib.hid (getD_code hg (by decide))
    go_enter Tryd.func102, Tryd.ntmps102
    go_wp2_with fail
    refine (refgetfixed_all s at_ 2 _ hs h0 h1).mono ?_
    rintro e w1 ⟨rfl, rfl⟩
    rw [hg]
    clear hg
    go_wp2
    go_ret3
    exact ⟨ret_getd hd.out, rfl⟩
  · by_cases hn : a + 2 + m ≤ s.size
    · have hd := Lib.hid (getD_ok hg hn)
      have hg' := Lib.hid hg
      clear hg
      go_enter Tryd.func102, Tryd.ntmps102
      go_wp2_with fail
      refine (refgetfixed_all s a 2 _ hs h0 h1).mono ?_
      rintro e w1 ⟨rfl, rfl⟩
      rw [hg'.out]
      go_wp2
      go_ret3
      exact ⟨ret_getd hd.out, rfl⟩
    · have hd := Lib.hid (getD_none hg (by omega))
      have hg' := Lib.hid hg
      clear hg
      go_enter Tryd.func102, Tryd.ntmps102
      go_wp2_with fail
      refine (refgetfixed_all s a 2 _ hs h0 h1).mono ?_
      rintro e w1 ⟨rfl, rfl⟩
      rw [hg'.out]
      go_wp2
      go_ret3
      exact ⟨ret_getd hd.out, rfl⟩
end Go.Proofs.YtedapgeabpadaaaDoor

namespace Go.Proofs.YtedapgeabpadaaaDoor
open Go.RowKit Pl Go.Shelf

/-- A text's code, and its bytes. -/
def tputC (s : ByteArray) : Int := if (flt s s.size 0).2 = true then 129 else dataC s
def tputS (s : ByteArray) : ByteArray := if (flt s s.size 0).2 = true then ⟨#[]⟩ else dataS s
theorem tput_bad {s : ByteArray} (h : (flt s s.size 0).2 = true) : tputC s = 129 ∧ tputS s = ⟨#[]⟩ := by unfold tputC tputS; rw [if_pos h, if_pos h]; exact ⟨rfl, rfl⟩
theorem tput_ok {s : ByteArray} (h : (flt s s.size 0).2 = false) : tputC s = dataC s ∧ tputS s = dataS s := by unfold tputC tputS; rw [if_neg (by rw [h]; simp), if_neg (by rw [h]; simp)]; exact ⟨rfl, rfl⟩
/-- The text at a place: the text, the place behind it, the code. -/
def tget (s : ByteArray) (at_ : Int) : ByteArray × Int × Int :=
  if (getD s at_).2.2 ≠ 0 then (⟨#[]⟩, 0, (getD s at_).2.2) else if (flt (getD s at_).1 (getD s at_).1.size 0).2 = true then (⟨#[]⟩, 0, 129) else getD s at_
theorem tget_code {s : ByteArray} {at_ : Int} {t : ByteArray} {f c : Int} (h : getD s at_ = (t, f, c)) (hc : c ≠ 0) : tget s at_ = (⟨#[]⟩, 0, c) := by unfold tget; rw [h]; simp [hc]
theorem tget_bad {s : ByteArray} {at_ : Int} {t : ByteArray} {f : Int} (h : getD s at_ = (t, f, 0)) (hb : (flt t t.size 0).2 = true) : tget s at_ = (⟨#[]⟩, 0, 129) := by unfold tget; rw [h]; simp [hb]
theorem tget_ok {s : ByteArray} {at_ : Int} {t : ByteArray} {f : Int} (h : getD s at_ = (t, f, 0)) (hb : (flt t t.size 0).2 = false) : tget s at_ = (t, f, 0) := by unfold tget; rw [h]; simp [hb]
/-- What is read is no longer than what it is read from. -/
theorem getD_size (s : ByteArray) (at_ : Int) : (getD s at_).1.size ≤ s.size := by
  unfold getD
  split
  · exact Nat.zero_le _
  · split
    · exact Nat.zero_le _
    · simp only [ByteArray.size_extract]
      omega

set_option maxRecDepth 100000 in
theorem tget_any (s : ByteArray) (at_ : Int) (w : World) (hs : s.size ≤ 140737488351232) (h0 : -9223372036854775808 ≤ at_) (h1 : at_ ≤ 9223372036854775807) (hT : Tabs w) :
    Calls Tryd.prog 82 #[.string s, .int .i64 at_] w fun e w' => e = .returned (.tuple #[.string (tget s at_).1, .int .i64 (tget s at_).2.1, .int .u8 (tget s at_).2.2]) ∧ Below w.heap.size w w' := by
  obtain ⟨t, p, c, hg⟩ : ∃ t p c, getD s at_ = (t, p, c) := ⟨_, _, _, rfl⟩
  have Hg := Lib.hid hg
  have ht : t.size ≤ 140737488351232 := by have := getD_size s at_; rw [hg] at this; simp at this; omega
  clear hg
  by_cases hc : c = 0
  · subst hc
    obtain ⟨q, b, hf⟩ : ∃ p b, flt t t.size 0 = (p, b) := ⟨_, _, rfl⟩
    have Hf := Lib.hid hf
    clear hf
    cases b
    · have hr := Lib.hid (tget_ok Hg.out (by rw [Hf.out]))
      go_enter Tryd.func82, Tryd.ntmps82
      go_wp2_with fail
      refine (getdata_all s at_ _ hs h0 h1).mono ?_
      rintro e w1 ⟨rfl, rfl⟩
      rw [Hg.out]
      go_wp2_with fail
      refine (fault_any t _ (by omega) hT).mono ?_
      rintro e w2 ⟨rfl, b2⟩
      rw [Hf.out]
      go_wp2
      go_ret3
      exact ⟨ret_getd hr.out, b2⟩
    · have hr := Lib.hid (tget_bad Hg.out (by rw [Hf.out]))
      go_enter Tryd.func82, Tryd.ntmps82
      go_wp2_with fail
      refine (getdata_all s at_ _ hs h0 h1).mono ?_
      rintro e w1 ⟨rfl, rfl⟩
      rw [Hg.out]
      go_wp2_with fail
      refine (fault_any t _ (by omega) hT).mono ?_
      rintro e w2 ⟨rfl, b2⟩
      rw [Hf.out]
      go_wp2
      go_ret3
      exact ⟨ret_getd hr.out, b2⟩
  · have hr := Lib.hid (tget_code Hg.out hc)
    have hcn : (c != 0) = true := by simpa using hc
    clear hc
    go_enter Tryd.func82, Tryd.ntmps82
    go_wp2_with fail
    refine (getdata_all s at_ _ hs h0 h1).mono ?_
    rintro e w1 ⟨rfl, rfl⟩
    rw [Hg.out]
    go_wp2
    go_ret3
    exact ⟨ret_getd hr.out, Below.refl _ _⟩

set_option maxRecDepth 100000 in
theorem reftget_any (s : ByteArray) (at_ : Int) (w : World) (hs : s.size ≤ 140737488351232) (h0 : -9223372036854775808 ≤ at_) (h1 : at_ ≤ 9223372036854775807) :
    Calls Tryd.prog 88 #[.string s, .int .i64 at_] w fun e w' => e = .returned (.tuple #[.string (tget s at_).1, .int .i64 (tget s at_).2.1, .int .i64 (tget s at_).2.2]) ∧ w = w' := by
  obtain ⟨t, p, c, hg⟩ : ∃ t p c, getD s at_ = (t, p, c) := ⟨_, _, _, rfl⟩
  have Hg := Lib.hid hg
  have ht : t.size ≤ 140737488351232 := by have := getD_size s at_; rw [hg] at this; simp at this; omega
  clear hg
  by_cases hc : c = 0
  · subst hc
    obtain ⟨q, b, hf⟩ : ∃ p b, flt t t.size 0 = (p, b) := ⟨_, _, rfl⟩
    have Hf := Lib.hid hf
    clear hf
    cases b
    · have hr := Lib.hid (tget_ok Hg.out (by rw [Hf.out]))
      go_enter Tryd.func88, Tryd.ntmps88
      go_wp2_with fail
      refine (refgetdata_all s at_ _ hs h0 h1).mono ?_
      rintro e w1 ⟨rfl, rfl⟩
      rw [Hg.out]
      go_wp2_with fail
      refine (reffault_any t _ (by omega)).mono ?_
      rintro e w2 ⟨rfl, rfl⟩
      rw [Hf.out]
      go_wp2
      go_ret3
      exact ⟨ret_getd hr.out, rfl⟩
    · have hr := Lib.hid (tget_bad Hg.out (by rw [Hf.out]))
      go_enter Tryd.func88, Tryd.ntmps88
      go_wp2_with fail
      refine (refgetdata_all s at_ _ hs h0 h1).mono ?_
      rintro e w1 ⟨rfl, rfl⟩
      rw [Hg.out]
      go_wp2_with fail
      refine (reffault_any t _ (by omega)).mono ?_
      rintro e w2 ⟨rfl, rfl⟩
      rw [Hf.out]
      go_wp2
      go_ret3
      exact ⟨ret_getd hr.out, rfl⟩
  · have hr := Lib.hid (tget_code Hg.out hc)
    have hcn : (c != 0) = true := by simpa using hc
    clear hc
    go_enter Tryd.func88, Tryd.ntmps88
    go_wp2_with fail
    refine (refgetdata_all s at_ _ hs h0 h1).mono ?_
    rintro e w1 ⟨rfl, rfl⟩
    rw [Hg.out]
    go_wp2
    go_ret3
    exact ⟨ret_getd hr.out, rfl⟩
end Go.Proofs.YtedapgeabpadaaaDoor

namespace Go.Proofs.YtedapgeabpadaaaDoor.Pl

/-- How many bytes a number takes; 0: none. -/
def sz (n : Int) : Int := if n < 0 ∨ 268435455 < n then 0 else if n < 128 then 1 else if n < 16384 then 2 else if n < 2097152 then 3 else 4

theorem sz_bad {n : Int} (h : n < 0 ∨ 268435455 < n) : sz n = 0 := by unfold sz; rw [if_pos h]
theorem sz_1 {n : Int} (h0 : 0 ≤ n) (h : n < 128) : sz n = 1 := by unfold sz; rw [if_neg (by omega), if_pos h]
theorem sz_2 {n : Int} (h0 : 128 ≤ n) (h : n < 16384) : sz n = 2 := by unfold sz; rw [if_neg (by omega), if_neg (by omega), if_pos h]
theorem sz_3 {n : Int} (h0 : 16384 ≤ n) (h : n < 2097152) : sz n = 3 := by unfold sz; rw [if_neg (by omega), if_neg (by omega), if_neg (by omega), if_pos h]
theorem sz_4 {n : Int} (h0 : 2097152 ≤ n) (h : n ≤ 268435455) : sz n = 4 := by unfold sz; rw [if_neg (by omega), if_neg (by omega), if_neg (by omega), if_neg (by omega)]
theorem sz_div {n : Int} (h0 : 128 ≤ n) (h : n ≤ 268435455) : sz n = sz (n / 128) + 1 := by
  by_cases h1 : n < 16384
  · rw [sz_2 h0 h1, sz_1 (by omega) (by omega)]; rfl
  · by_cases h2 : n < 2097152
    · rw [sz_3 (by omega) h2, sz_2 (by omega) (by omega)]; rfl
    · rw [sz_4 (by omega) h, sz_3 (by omega) (by omega)]; rfl
theorem sz_pos {n : Int} (h0 : 0 ≤ n) (h : n ≤ 268435455) : 1 ≤ sz n ∧ sz n ≤ 4 := by
  unfold sz
  rw [if_neg (by omega)]
  repeat' split
  all_goals omega
theorem sz_room {n m k : Int} (h : sz n = sz m + k - 1) (hd : sz m = sz (m / 128) + 1) (h0 : 0 ≤ n) (h1 : n ≤ 268435455) (m0 : 0 ≤ m / 128) (m1 : m / 128 ≤ 268435455) : k ≤ 3 := by
  have a := sz_pos h0 h1
  have b := sz_pos m0 m1
  omega

/-- r bytes of a number, the lowest seven bits first. -/
def vb : Int → Nat → List UInt8
  | _, 0 => []
  | n, 1 => [by8 (n % 128)]
  | n, r + 2 => by8 (n % 128 + 128) :: vb (n / 128) (r + 1)
/-- A number's bytes. -/
def enc (n : Int) : List UInt8 := vb n (sz n).toNat
theorem vb_length (r : Nat) : ∀ n, (vb n r).length = r := by
  induction r with
  | zero => intro n; rfl
  | succ r ih =>
    intro n
    cases r with
    | zero => rfl
    | succ r => simp [vb, ih]
theorem enc_length (n : Int) : (enc n).length = (sz n).toNat := vb_length _ _
open Go.PlainAid (bt bt_nonneg bt_le get_bt bt_end)
def gi (s : ByteArray) : Nat → Nat → Int → Nat → Int × Int × Int
  | 0, _, _, _ => (0, 0, 129)
  | f + 1, k, n, a =>
    if s.size ≤ a then (0, 0, 242) else if bt s a < 128 then (if 0 < k ∧ bt s a = 0 then (0, 0, 129) else (n + bt s a * 128 ^ k, (a : Int) + 1, 0))
    else gi s f (k + 1) (n + bt s a % 128 * 128 ^ k) (a + 1)
/-- The number at a place: the number, the place behind it, the code. -/
def getV (s : ByteArray) (at_ : Int) : Int × Int × Int := if at_ < 0 ∨ (s.size : Int) < at_ then (0, 0, 128) else gi s 4 0 0 at_.toNat
theorem getV_bad {s : ByteArray} {at_ : Int} (h : at_ < 0 ∨ (s.size : Int) < at_) : getV s at_ = (0, 0, 128) := by unfold getV; rw [if_pos h]
theorem getV_ok {s : ByteArray} {a : Nat} (h : a ≤ s.size) : getV s a = gi s 4 0 0 a := by unfold getV; rw [if_neg (by omega)]; rfl
theorem gi_end {s : ByteArray} {f k a : Nat} {n : Int} (h : s.size ≤ a) : gi s (f + 1) k n a = (0, 0, 242) := by unfold gi; rw [if_pos h]
theorem gi_last {s : ByteArray} {f k a : Nat} {n : Int} (h : ¬ s.size ≤ a) (hb : bt s a < 128) (hk : ¬ (0 < k ∧ bt s a = 0)) : gi s (f + 1) k n a = (n + bt s a * 128 ^ k, (a : Int) + 1, 0) := by
  unfold gi; rw [if_neg h, if_pos hb, if_neg hk]
theorem gi_long {s : ByteArray} {f k a : Nat} {n : Int} (h : ¬ s.size ≤ a) (hb : bt s a < 128) (hk : 0 < k ∧ bt s a = 0) : gi s (f + 1) k n a = (0, 0, 129) := by
  unfold gi; rw [if_neg h, if_pos hb, if_pos hk]
theorem gi_more {s : ByteArray} {f k a : Nat} {n : Int} (h : ¬ s.size ≤ a) (hb : 128 ≤ bt s a) : gi s (f + 1) k n a = gi s f (k + 1) (n + bt s a % 128 * 128 ^ k) (a + 1) := by
  conv => lhs; unfold gi
  rw [if_neg h, if_neg (by omega)]
theorem gi_zero {s : ByteArray} {k a : Nat} {n : Int} : gi s 0 k n a = (0, 0, 129) := rfl
theorem sz_small {n : Int} {k : Nat} (h0 : 0 ≤ n) (h1 : n < 128 ^ k) (hk : 1 ≤ k ∧ k ≤ 3) : sz n ≤ k := by
  obtain rfl | rfl | rfl : k = 1 ∨ k = 2 ∨ k = 3 := by omega
  all_goals (simp at h1; unfold sz; rw [if_neg (by omega)]; repeat' split) <;> omega
theorem sz_exact {n : Int} {k : Nat} (h0 : 0 ≤ n) (h1 : n < 128 ^ (k + 1)) (h2 : k = 0 ∨ 128 ^ k ≤ n) (hk : k ≤ 3) : sz n = k + 1 := by
  obtain rfl | rfl | rfl | rfl : k = 0 ∨ k = 1 ∨ k = 2 ∨ k = 3 := by omega
  all_goals (simp at h1 h2; unfold sz; rw [if_neg (by omega)]; repeat' split) <;> omega
theorem gi_code (s : ByteArray) : ∀ (f k : Nat) (n : Int) (a : Nat), 0 ≤ (gi s f k n a).2.2 ∧ (gi s f k n a).2.2 ≤ 242 := by
  intro f
  induction f with
  | zero => intro k n a; rw [gi_zero]; exact ⟨by decide, by decide⟩
  | succ f ih =>
    intro k n a
    unfold gi
    repeat' split
    all_goals first | exact ih _ _ _ | exact ⟨by simp, by simp⟩
theorem getV_code (s : ByteArray) (at_ : Int) : 0 ≤ (getV s at_).2.2 ∧ (getV s at_).2.2 ≤ 242 := by
  unfold getV
  split
  · exact ⟨by decide, by decide⟩
  · exact gi_code _ _ _ _ _
end Go.Proofs.YtedapgeabpadaaaDoor.Pl

namespace Go.Proofs.YtedapgeabpadaaaDoor
open Go.RowKit Pl

theorem size_any (n : Int) (w : World) : Calls Tryd.prog 48 #[.int .i64 n] w fun e w' => e = .returned (.int .i64 (sz n)) ∧ w = w' := by
  go_enter Tryd.func48, Tryd.ntmps48
  go_wp2
  all_goals go_ret
  all_goals exact ⟨ret_int (by first | rw [sz_bad (by omega)] | rw [sz_1 (by omega) (by omega)] | rw [sz_2 (by omega) (by omega)] | rw [sz_3 (by omega) (by omega)] | rw [sz_4 (by omega) (by omega)]), rfl⟩

theorem refsize_any (n : Int) (w : World) : Calls Tryd.prog 58 #[.int .i64 n] w fun e w' => e = .returned (.int .i64 (sz n)) ∧ w = w' := by
  by_cases hb : n < 0 ∨ 268435455 < n
  · have hs : Hid (sz n = 0) := Lib.hid (sz_bad hb)
    go_enter Tryd.func58, Tryd.ntmps58
    go_wp2
    all_goals go_ret
    all_goals exact ⟨ret_int hs.out.symm, rfl⟩
  · have h0 : 0 ≤ n := by omega
    have h1 : n ≤ 268435455 := by omega
    clear hb
    go_enter Tryd.func58, Tryd.ntmps58
    go_wp2
    go_loop [0, 3] (fun v0 v3 => ∃ m k : Int, v0 = .int .i64 m ∧ v3 = .int .i64 k ∧ 0 ≤ m ∧ m ≤ 268435455 ∧ 1 ≤ k ∧ k ≤ 4 ∧ sz n = sz m + k - 1) (fun v0 _ => (intOf v0).toNat)
    case atStart => exact ⟨n, 1, rfl, rfl, h0, h1, by omega, by omega, by omega⟩
    case round =>
      obtain ⟨m, k, rfl, rfl, hm0, hm1, hk1, hk4, hs'⟩ := hrel
      have hs := Lib.hid hs'
      clear hs'
      by_cases hm : 127 < m
      · have hd := Lib.hid (sz_div (n := m) (by omega) hm1)
        have hk3 : k ≤ 3 := sz_room hs.out hd.out h0 h1 (by omega) (by omega)
        go_wp2
        go_round
        case rel => exact ⟨m / 128, k + 1, rfl, rfl, by omega, by omega, by omega, by omega, by rw [hs.out, hd.out]; omega⟩
        case measure => simp [intOf]; omega
      · have hd := Lib.hid (sz_1 (n := m) (by omega) (by omega))
        go_wp2
        go_ret
        exact ⟨ret_int (by rw [hs.out, hd.out]; omega), rfl⟩
end Go.Proofs.YtedapgeabpadaaaDoor

namespace Go.Proofs.YtedapgeabpadaaaDoor
open Go.RowKit Pl
/-- The code that comes with a number's bytes. -/
def putC (n : Int) : Int := if n < 0 ∨ 268435455 < n then 129 else 0
end Go.Proofs.YtedapgeabpadaaaDoor

namespace Go.Proofs.YtedapgeabpadaaaDoor
set_option linter.unusedVariables false
open Go.RowKit Pl

def Pp.fits (p : Pp) : Prop := p.s.size ≤ 140737488351232 ∧ p.t.size ≤ 140737488351232 ∧ -9223372036854775808 ≤ p.id ∧ p.id ≤ 9223372036854775807 ∧ -9223372036854775808 ≤ p.n ∧ p.n ≤ 9223372036854775807
/-- How many bytes a number of a kind has. -/
def wid (k : Int) : Int := if k = 1 then 1 else if k = 2 then 2 else 4
/-- A value's code, and its bytes. -/
def pvC (p : Pp) : Int :=
  if kindOf p.id = 4 then putC p.n else if kindOf p.id = 5 then dataC p.s else if kindOf p.id = 6 then tputC p.s
  else if kindOf p.id = 7 then (if tputC p.s = 0 then tputC p.t else tputC p.s) else fixC (wid (kindOf p.id)) p.n
def pvS (p : Pp) : ByteArray :=
  if kindOf p.id = 4 then ⟨(enc p.n).toArray⟩ else if kindOf p.id = 5 then dataS p.s else if kindOf p.id = 6 then tputS p.s
  else if kindOf p.id = 7 then tputS p.s ++ tputS p.t else ⟨(fixS (wid (kindOf p.id)) p.n).toArray⟩
theorem enc_small (n : Int) : (enc n).length ≤ 4 := by
  rw [enc_length]
  unfold sz
  repeat' split
  all_goals decide
theorem dataS_small (s : ByteArray) : (dataS s).size ≤ 65537 := by
  unfold dataS
  split
  · decide
  · rename_i h
    have := fixS_len 2 s.size
    rw [ByteArray.size_append]
    show (fixS 2 s.size).toArray.size + s.size ≤ 65537
    simp at this ⊢
    omega
theorem tputS_small (s : ByteArray) : (tputS s).size ≤ 65537 := by
  unfold tputS
  split
  · decide
  · exact dataS_small s
theorem pvS_small (p : Pp) : (pvS p).size ≤ 131074 := by
  unfold pvS
  split
  · have := enc_small p.n
    show (enc p.n).toArray.size ≤ _
    simp; omega
  · split
    · have := dataS_small p.s; omega
    · split
      · have := tputS_small p.s; omega
      · split
        · have h1 := tputS_small p.s
          have h2 := tputS_small p.t
          rw [ByteArray.size_append]; omega
        · have := fixS_len (wid (kindOf p.id)) p.n
          have h2 : (wid (kindOf p.id)).toNat ≤ 4 := by
            unfold wid
            repeat' split
            all_goals decide
          show (fixS (wid (kindOf p.id)) p.n).toArray.size ≤ _
          simp; omega
/-- Has one of the first k the identifier, which may stand but once? -/
def dup (L : List Pp) (k : Nat) (id : Int) : Bool := (L.take k).any (fun p => p.id == id) && (id != 38)
/-- The code at one more. -/
def stp (L : List Pp) (k : Nat) (p : Pp) : Int := if kindOf p.id = 0 then 129 else if dup L k p.id = true then 130 else pvC p
def one (p : Pp) : ByteArray := ⟨(enc p.id).toArray⟩ ++ pvS p
def putK (L : List Pp) : Nat → ByteArray
  | 0 => ⟨#[]⟩
  | k + 1 => match L[k]? with | some p => putK L k ++ one p | none => putK L k
def codK (L : List Pp) : Nat → Int
  | 0 => 0
  | k + 1 => if codK L k = 0 then (match L[k]? with | some p => stp L k p | none => 0) else codK L k
theorem put_succ {L : List Pp} {k : Nat} {p : Pp} (h : L[k]? = some p) : putK L (k + 1) = putK L k ++ one p := by
  show (match L[k]? with | some p => putK L k ++ one p | none => putK L k) = _
  rw [h]
theorem one_small (p : Pp) : (one p).size ≤ 131078 := by
  unfold one
  rw [ByteArray.size_append]
  have h1 := enc_small p.id
  have h2 := pvS_small p
  show (enc p.id).toArray.size + _ ≤ _
  simp only [List.size_toArray]
  omega
theorem put_small (L : List Pp) : ∀ k, (putK L k).size ≤ k * 131078
  | 0 => by simp [putK]; rfl
  | k + 1 => by
    have ih := put_small L k
    show (match L[k]? with | some p => putK L k ++ one p | none => putK L k).size ≤ _
    split
    · rename_i p _
      have := one_small p
      rw [ByteArray.size_append, Nat.succ_mul]; exact Nat.add_le_add ih this
    · exact Nat.le_trans ih (Nat.mul_le_mul_right _ (Nat.le_succ k))
/-- The code of properties, and their bytes. -/
def ppC (L : List Pp) : Int := if 64 < L.length then 149 else codK L L.length
def ppS (L : List Pp) : ByteArray := if ppC L = 0 then ⟨(enc (putK L L.length).size).toArray⟩ ++ putK L L.length else ⟨#[]⟩
theorem pp_long {L : List Pp} (h : 64 < L.length) : ppC L = 149 ∧ ppS L = ⟨#[]⟩ := by
  have e : ppC L = 149 := by unfold ppC; rw [if_pos h]
  exact ⟨e, by unfold ppS; rw [e, if_neg (by decide)]⟩
theorem pp_ok {L : List Pp} (h : ¬ 64 < L.length) (hc : codK L L.length = 0) : ppC L = 0 ∧ ppS L = ⟨(enc (putK L L.length).size).toArray⟩ ++ putK L L.length := by
  have e : ppC L = 0 := by unfold ppC; rw [if_neg h, hc]
  exact ⟨e, by unfold ppS; rw [e, if_pos rfl]⟩
end Go.Proofs.YtedapgeabpadaaaDoor

namespace Go.Proofs.YtedapgeabpadaaaDoor
open Go.RowKit Pl
open Go.PlainAid (bt bt_nonneg bt_le get_bt bt_end)

/-- What the three results of a reading are, as values. -/
theorem ret_get {k : IntKind} {p : Int × Int × Int} {x y z : Int} (h : p = (x, y, z)) :
    Ending.returned (.tuple #[.int .i64 x, .int .i64 y, .int k z]) = .returned (.tuple #[.int .i64 p.1, .int .i64 p.2.1, .int k p.2.2]) := by rw [h]

set_option maxHeartbeats 1000000 in
theorem get_in (s : ByteArray) (a : Nat) (w : World) (hs : s.size ≤ 140737488351232) (ha : a ≤ s.size) :
    Calls Tryd.prog 31 #[.string s, .int .i64 a] w fun e w' => e = .returned (.tuple #[.int .i64 (gi s 4 0 0 a).1, .int .i64 (gi s 4 0 0 a).2.1, .int .u8 (gi s 4 0 0 a).2.2]) ∧ w = w' := by
  have hbt := get_bt s
  go_enter Tryd.func31, Tryd.ntmps31
  go_wp2
  go_loop [18, 7] (fun i v => ∃ (k : Nat) (n : Int), i = .int .i64 k ∧ v = .int .i64 n ∧ k ≤ 4 ∧ 0 ≤ n ∧ n < 128 ^ k ∧ gi s 4 0 0 a = gi s (4 - k) k n (a + k)) (fun i _ => (4 - intOf i).toNat)
  case atStart => exact ⟨0, 0, rfl, rfl, by omega, by omega, by decide, rfl⟩
  case round =>
    obtain ⟨k, n, rfl, rfl, hk, hn0, hn1', hv'⟩ := hrel
    have hv := Lib.hid hv'
    clear hv'
    by_cases h4 : k = 4
    · subst h4
      clear hn1'
      go_wp2
      go_ret3
      exact ⟨ret_get (hv.out.trans gi_zero), rfl⟩
    · by_cases he : s.size ≤ a + k
      · have hg := Lib.hid (hv.out.trans (show gi s (4 - k) k n (a + k) = (0, 0, 242) by obtain ⟨f, hf⟩ : ∃ f, 4 - k = f + 1 := ⟨3 - k, by omega⟩; rw [hf]; exact gi_end he))
        clear hn1'
        go_wp2
        go_ret3
        exact ⟨ret_get hg.out, rfl⟩
      · have hn1 := Lib.hid hn1'
        clear hn1'
        obtain rfl | rfl | rfl | rfl : k = 0 ∨ k = 1 ∨ k = 2 ∨ k = 3 := by omega
        · obtain ⟨b, hB⟩ : ∃ b, bt s (a) = b := ⟨_, rfl⟩
          have hb0 : 0 ≤ b := by rw [← hB]; exact bt_nonneg s _
          have hb1 : b ≤ 255 := by rw [← hB]; exact bt_le s _
          obtain ⟨c, hc⟩ : ∃ c, c = b % 128 := ⟨_, rfl⟩
          have hc0 : 0 ≤ c := by omega
          have hc1 : c < 128 := by omega
          have hn2 : n < 1 := by have := hn1.out; simpa using this
          obtain ⟨m, hm⟩ : ∃ m, m = n + c := ⟨_, rfl⟩
          have hm0 : 0 ≤ m := by omega
          have hm1 : m < 128 := by omega
          have hand : bits .and .i64 b 127 = c := by rw [and_127 hb0 (by omega)]; exact hc.symm
          have hor : bits .or .i64 n (c) = m := by
            rw [hm, show c = 2 ^ 0 * c from by omega]
            exact or_add 0 hn0 (by simpa using hn2) hc0 (by omega)
          have Hc := Lib.hid hc
          have Hm := Lib.hid hm
          clear hc hm
          by_cases hl : b < 128
          · have Hcb := Lib.hid (show c = b by have := Hc.out; omega)
            by_cases hz : 0 < 0 ∧ b = 0
            · have hbad := Lib.hid (hv.out.trans (gi_long (f := 3 - 0) (k := 0) (n := n) he (by rw [show bt s (a + 0) = b from hB]; exact hl) (by rw [show bt s (a + 0) = b from hB]; exact hz)))
              have Hz := Lib.hid hz
              clear hz
              exfalso
              have := Hz.out
              omega
            · have hgo := Lib.hid (hv.out.trans (gi_last (f := 3 - 0) (k := 0) (n := n) he (by rw [show bt s (a + 0) = b from hB]; exact hl) (by rw [show bt s (a + 0) = b from hB]; exact hz)))
              have Hz := Lib.hid hz
              clear hz
              have hsz : Hid (sz m = 0 + 1) := Lib.hid (by have := Hm.out; have := Hcb.out; have := Hz.out; exact sz_exact (k := 0) hm0 (by simp; omega) (by first | omega | (simp; done) | (simp; omega)) (by omega))
              have hne : (sz m != 1) = false := by rw [hsz.out]; rfl
              go_wp2_with fail
              refine (size_any m _).mono ?_
              rintro e w' ⟨rfl, rfl⟩
              go_wp2
              go_ret3
              exact ⟨ret_get (by rw [hgo.out, show bt s (a + 0) = b from hB, Hm.out, Hcb.out]; simp), rfl⟩
          · have hgo := Lib.hid (hv.out.trans (gi_more (f := 3 - 0) (k := 0) (n := n) he (by rw [show bt s (a + 0) = b from hB]; omega)))
            go_wp2
            go_round
            case rel => exact ⟨0 + 1, m, by go_num, rfl, by omega, hm0, by simpa using hm1, by rw [hgo.out, show bt s (a + 0) = b from hB, ← Hc.out, Hm.out]; simp⟩
            case measure => first | (simp [intOf]; done) | (simp [intOf]; omega)
        · obtain ⟨b, hB⟩ : ∃ b, bt s (a + 1) = b := ⟨_, rfl⟩
          have hb0 : 0 ≤ b := by rw [← hB]; exact bt_nonneg s _
          have hb1 : b ≤ 255 := by rw [← hB]; exact bt_le s _
          obtain ⟨c, hc⟩ : ∃ c, c = b % 128 := ⟨_, rfl⟩
          have hc0 : 0 ≤ c := by omega
          have hc1 : c < 128 := by omega
          have hn2 : n < 128 := by have := hn1.out; simpa using this
          obtain ⟨m, hm⟩ : ∃ m, m = n + c * 128 := ⟨_, rfl⟩
          have hm0 : 0 ≤ m := by omega
          have hm1 : m < 16384 := by omega
          have hand : bits .and .i64 b 127 = c := by rw [and_127 hb0 (by omega)]; exact hc.symm
          have hor : bits .or .i64 n (c * 128) = m := by
            rw [hm, show c * 128 = 2 ^ 7 * c from by omega]
            exact or_add 7 hn0 (by simpa using hn2) hc0 (by omega)
          have Hc := Lib.hid hc
          have Hm := Lib.hid hm
          clear hc hm
          by_cases hl : b < 128
          · have Hcb := Lib.hid (show c = b by have := Hc.out; omega)
            by_cases hz : 0 < 1 ∧ b = 0
            · have hbad := Lib.hid (hv.out.trans (gi_long (f := 3 - 1) (k := 1) (n := n) he (by rw [show bt s (a + 1) = b from hB]; exact hl) (by rw [show bt s (a + 1) = b from hB]; exact hz)))
              have Hz := Lib.hid hz
              clear hz
              have hsz : Hid (sz m ≠ 1 + 1) := Lib.hid (by have := Hm.out; have := Hcb.out; have := Hz.out; have := sz_small (n := m) (k := 1) hm0 (by simp; omega) (by omega); omega)
              have hne : (sz m != 2) = true := by have := hsz.out; simpa using this
              go_wp2_with fail
              refine (size_any m _).mono ?_
              rintro e w' ⟨rfl, rfl⟩
              go_wp2
              go_ret3
              exact ⟨ret_get hbad.out, rfl⟩
            · have hgo := Lib.hid (hv.out.trans (gi_last (f := 3 - 1) (k := 1) (n := n) he (by rw [show bt s (a + 1) = b from hB]; exact hl) (by rw [show bt s (a + 1) = b from hB]; exact hz)))
              have Hz := Lib.hid hz
              clear hz
              have hsz : Hid (sz m = 1 + 1) := Lib.hid (by have := Hm.out; have := Hcb.out; have := Hz.out; exact sz_exact (k := 1) hm0 (by simp; omega) (by first | omega | (simp; done) | (simp; omega)) (by omega))
              have hne : (sz m != 2) = false := by rw [hsz.out]; rfl
              go_wp2_with fail
              refine (size_any m _).mono ?_
              rintro e w' ⟨rfl, rfl⟩
              go_wp2
              go_ret3
              exact ⟨ret_get (by rw [hgo.out, show bt s (a + 1) = b from hB, Hm.out, Hcb.out]; simp), rfl⟩
          · have hgo := Lib.hid (hv.out.trans (gi_more (f := 3 - 1) (k := 1) (n := n) he (by rw [show bt s (a + 1) = b from hB]; omega)))
            go_wp2
            go_round
            case rel => exact ⟨1 + 1, m, by go_num, rfl, by omega, hm0, by simpa using hm1, by rw [hgo.out, show bt s (a + 1) = b from hB, ← Hc.out, Hm.out]; simp⟩
            case measure => first | (simp [intOf]; done) | (simp [intOf]; omega)
        · obtain ⟨b, hB⟩ : ∃ b, bt s (a + 2) = b := ⟨_, rfl⟩
          have hb0 : 0 ≤ b := by rw [← hB]; exact bt_nonneg s _
          have hb1 : b ≤ 255 := by rw [← hB]; exact bt_le s _
          obtain ⟨c, hc⟩ : ∃ c, c = b % 128 := ⟨_, rfl⟩
          have hc0 : 0 ≤ c := by omega
          have hc1 : c < 128 := by omega
          have hn2 : n < 16384 := by have := hn1.out; simpa using this
          obtain ⟨m, hm⟩ : ∃ m, m = n + c * 16384 := ⟨_, rfl⟩
          have hm0 : 0 ≤ m := by omega
          have hm1 : m < 2097152 := by omega
          have hand : bits .and .i64 b 127 = c := by rw [and_127 hb0 (by omega)]; exact hc.symm
          have hor : bits .or .i64 n (c * 16384) = m := by
            rw [hm, show c * 16384 = 2 ^ 14 * c from by omega]
            exact or_add 14 hn0 (by simpa using hn2) hc0 (by omega)
          have Hc := Lib.hid hc
          have Hm := Lib.hid hm
          clear hc hm
          by_cases hl : b < 128
          · have Hcb := Lib.hid (show c = b by have := Hc.out; omega)
            by_cases hz : 0 < 2 ∧ b = 0
            · have hbad := Lib.hid (hv.out.trans (gi_long (f := 3 - 2) (k := 2) (n := n) he (by rw [show bt s (a + 2) = b from hB]; exact hl) (by rw [show bt s (a + 2) = b from hB]; exact hz)))
              have Hz := Lib.hid hz
              clear hz
              have hsz : Hid (sz m ≠ 2 + 1) := Lib.hid (by have := Hm.out; have := Hcb.out; have := Hz.out; have := sz_small (n := m) (k := 2) hm0 (by simp; omega) (by omega); omega)
              have hne : (sz m != 3) = true := by have := hsz.out; simpa using this
              go_wp2_with fail
              refine (size_any m _).mono ?_
              rintro e w' ⟨rfl, rfl⟩
              go_wp2
              go_ret3
              exact ⟨ret_get hbad.out, rfl⟩
            · have hgo := Lib.hid (hv.out.trans (gi_last (f := 3 - 2) (k := 2) (n := n) he (by rw [show bt s (a + 2) = b from hB]; exact hl) (by rw [show bt s (a + 2) = b from hB]; exact hz)))
              have Hz := Lib.hid hz
              clear hz
              have hsz : Hid (sz m = 2 + 1) := Lib.hid (by have := Hm.out; have := Hcb.out; have := Hz.out; exact sz_exact (k := 2) hm0 (by simp; omega) (by first | omega | (simp; done) | (simp; omega)) (by omega))
              have hne : (sz m != 3) = false := by rw [hsz.out]; rfl
              go_wp2_with fail
              refine (size_any m _).mono ?_
              rintro e w' ⟨rfl, rfl⟩
              go_wp2
              go_ret3
              exact ⟨ret_get (by rw [hgo.out, show bt s (a + 2) = b from hB, Hm.out, Hcb.out]; simp), rfl⟩
          · have hgo := Lib.hid (hv.out.trans (gi_more (f := 3 - 2) (k := 2) (n := n) he (by rw [show bt s (a + 2) = b from hB]; omega)))
            go_wp2
            go_round
            case rel => exact ⟨2 + 1, m, by go_num, rfl, by omega, hm0, by simpa using hm1, by rw [hgo.out, show bt s (a + 2) = b from hB, ← Hc.out, Hm.out]; simp⟩
            case measure => first | (simp [intOf]; done) | (simp [intOf]; omega)
        · obtain ⟨b, hB⟩ : ∃ b, bt s (a + 3) = b := ⟨_, rfl⟩
          have hb0 : 0 ≤ b := by rw [← hB]; exact bt_nonneg s _
          have hb1 : b ≤ 255 := by rw [← hB]; exact bt_le s _
          obtain ⟨c, hc⟩ : ∃ c, c = b % 128 := ⟨_, rfl⟩
          have hc0 : 0 ≤ c := by omega
          have hc1 : c < 128 := by omega
          have hn2 : n < 2097152 := by have := hn1.out; simpa using this
          obtain ⟨m, hm⟩ : ∃ m, m = n + c * 2097152 := ⟨_, rfl⟩
          have hm0 : 0 ≤ m := by omega
          have hm1 : m < 268435456 := by omega
          have hand : bits .and .i64 b 127 = c := by rw [and_127 hb0 (by omega)]; exact hc.symm
          have hor : bits .or .i64 n (c * 2097152) = m := by
            rw [hm, show c * 2097152 = 2 ^ 21 * c from by omega]
            exact or_add 21 hn0 (by simpa using hn2) hc0 (by omega)
          have Hc := Lib.hid hc
          have Hm := Lib.hid hm
          clear hc hm
          by_cases hl : b < 128
          · have Hcb := Lib.hid (show c = b by have := Hc.out; omega)
            by_cases hz : 0 < 3 ∧ b = 0
            · have hbad := Lib.hid (hv.out.trans (gi_long (f := 3 - 3) (k := 3) (n := n) he (by rw [show bt s (a + 3) = b from hB]; exact hl) (by rw [show bt s (a + 3) = b from hB]; exact hz)))
              have Hz := Lib.hid hz
              clear hz
              have hsz : Hid (sz m ≠ 3 + 1) := Lib.hid (by have := Hm.out; have := Hcb.out; have := Hz.out; have := sz_small (n := m) (k := 3) hm0 (by simp; omega) (by omega); omega)
              have hne : (sz m != 4) = true := by have := hsz.out; simpa using this
              go_wp2_with fail
              refine (size_any m _).mono ?_
              rintro e w' ⟨rfl, rfl⟩
              go_wp2
              go_ret3
              exact ⟨ret_get hbad.out, rfl⟩
            · have hgo := Lib.hid (hv.out.trans (gi_last (f := 3 - 3) (k := 3) (n := n) he (by rw [show bt s (a + 3) = b from hB]; exact hl) (by rw [show bt s (a + 3) = b from hB]; exact hz)))
              have Hz := Lib.hid hz
              clear hz
              have hsz : Hid (sz m = 3 + 1) := Lib.hid (by have := Hm.out; have := Hcb.out; have := Hz.out; exact sz_exact (k := 3) hm0 (by simp; omega) (by first | omega | (simp; done) | (simp; omega)) (by omega))
              have hne : (sz m != 4) = false := by rw [hsz.out]; rfl
              go_wp2_with fail
              refine (size_any m _).mono ?_
              rintro e w' ⟨rfl, rfl⟩
              go_wp2
              go_ret3
              exact ⟨ret_get (by rw [hgo.out, show bt s (a + 3) = b from hB, Hm.out, Hcb.out]; simp), rfl⟩
          · have hgo := Lib.hid (hv.out.trans (gi_more (f := 3 - 3) (k := 3) (n := n) he (by rw [show bt s (a + 3) = b from hB]; omega)))
            go_wp2
            go_round
            case rel => exact ⟨3 + 1, m, by go_num, rfl, by omega, hm0, by simpa using hm1, by rw [hgo.out, show bt s (a + 3) = b from hB, ← Hc.out, Hm.out]; simp⟩
            case measure => first | (simp [intOf]; done) | (simp [intOf]; omega)

theorem get_all (s : ByteArray) (at_ : Int) (w : World) (hs : s.size ≤ 140737488351232) (h0 : -9223372036854775808 ≤ at_) (h1 : at_ ≤ 9223372036854775807) :
    Calls Tryd.prog 31 #[.string s, .int .i64 at_] w fun e w' => e = .returned (.tuple #[.int .i64 (getV s at_).1, .int .i64 (getV s at_).2.1, .int .u8 (getV s at_).2.2]) ∧ w = w' := by
  by_cases hb : at_ < 0 ∨ (s.size : Int) < at_
  · have hg := Lib.hid (getV_bad hb)
    go_enter Tryd.func31, Tryd.ntmps31
    go_wp2
    all_goals go_ret3
    all_goals exact ⟨ret_get hg.out, rfl⟩
  · obtain ⟨a, rfl⟩ := Int.eq_ofNat_of_zero_le (show 0 ≤ at_ by omega)
    rw [getV_ok (show a ≤ s.size by omega)]
    exact get_in s a w hs (by omega)

set_option maxHeartbeats 1000000 in
theorem refget_in (s : ByteArray) (a : Nat) (w : World) (hs : s.size ≤ 140737488351232) (ha : a ≤ s.size) :
    Calls Tryd.prog 36 #[.string s, .int .i64 a] w fun e w' => e = .returned (.tuple #[.int .i64 (gi s 4 0 0 a).1, .int .i64 (gi s 4 0 0 a).2.1, .int .i64 (gi s 4 0 0 a).2.2]) ∧ w = w' := by
  have hbt := get_bt s
  go_enter Tryd.func36, Tryd.ntmps36
  go_wp2
  go_loop [9, 7, 8] (fun i v q => ∃ (k : Nat) (n : Int), i = .int .i64 k ∧ v = .int .i64 n ∧ q = .int .i64 (128 ^ k) ∧ k ≤ 4 ∧ 0 ≤ n ∧ n < 128 ^ k ∧ gi s 4 0 0 a = gi s (4 - k) k n (a + k)) (fun i _ _ => (4 - intOf i).toNat)
  case atStart => exact ⟨0, 0, rfl, rfl, rfl, by omega, by omega, by decide, rfl⟩
  case round =>
    obtain ⟨k, n, rfl, rfl, rfl, hk, hn0, hn1', hv'⟩ := hrel
    have hv := Lib.hid hv'
    clear hv'
    by_cases h4 : k = 4
    · subst h4
      clear hn1'
      go_wp2
      go_ret3
      exact ⟨ret_get (hv.out.trans gi_zero), rfl⟩
    · by_cases he : s.size ≤ a + k
      · have hg := Lib.hid (hv.out.trans (show gi s (4 - k) k n (a + k) = (0, 0, 242) by obtain ⟨f, hf⟩ : ∃ f, 4 - k = f + 1 := ⟨3 - k, by omega⟩; rw [hf]; exact gi_end he))
        clear hn1'
        go_wp2
        go_ret3
        exact ⟨ret_get hg.out, rfl⟩
      · have hn1 := Lib.hid hn1'
        clear hn1'
        obtain rfl | rfl | rfl | rfl : k = 0 ∨ k = 1 ∨ k = 2 ∨ k = 3 := by omega
        · obtain ⟨b, hB⟩ : ∃ b, bt s (a) = b := ⟨_, rfl⟩
          have hb0 : 0 ≤ b := by rw [← hB]; exact bt_nonneg s _
          have hb1 : b ≤ 255 := by rw [← hB]; exact bt_le s _
          obtain ⟨c, hc⟩ : ∃ c, b % 128 = c := ⟨_, rfl⟩
          have hc0 : 0 ≤ c := by omega
          have hc1 : c < 128 := by omega
          have hn2 : n < 1 := by have := hn1.out; simpa using this
          have hm0 : 0 ≤ n + c := by omega
          have hm1 : n + c < 128 := by omega
          have Hc := Lib.hid hc
          by_cases hl : b < 128
          · have Hcb := Lib.hid (show c = b by omega)
            by_cases hz : 0 < 0 ∧ b = 0
            · have Hz := Lib.hid hz
              clear hz
              have hbad := Lib.hid (hv.out.trans (gi_long (f := 3 - 0) (k := 0) (n := n) he (by rw [show bt s (a + 0) = b from hB]; exact hl) (by rw [show bt s (a + 0) = b from hB]; exact Hz.out)))
              exfalso
              have := Hz.out
              omega
            · have Hz := Lib.hid hz
              clear hz
              have hgo := Lib.hid (hv.out.trans (gi_last (f := 3 - 0) (k := 0) (n := n) he (by rw [show bt s (a + 0) = b from hB]; exact hl) (by rw [show bt s (a + 0) = b from hB]; exact Hz.out)))
              have hge : 1 ≤ sz (n + c) := by have := Hcb.out; have := Hz.out; have := sz_exact (n := n + c) (k := 0) hm0 (by simp; omega) (by first | omega | (simp; done) | (simp; omega)) (by omega); omega
              go_wp2_with fail
              refine (refsize_any _ _).mono ?_
              rintro e w' ⟨rfl, rfl⟩
              go_wp2
              go_ret3
              exact ⟨ret_get (by rw [hgo.out, show bt s (a + 0) = b from hB, Hcb.out]; simp), rfl⟩
          · have hgo := Lib.hid (hv.out.trans (gi_more (f := 3 - 0) (k := 0) (n := n) he (by rw [show bt s (a + 0) = b from hB]; omega)))
            go_wp2
            go_round
            case rel => exact ⟨0 + 1, n + c, by go_num, rfl, by first | rfl | (simp; done), by omega, hm0, by simpa using hm1, by rw [hgo.out, show bt s (a + 0) = b from hB, Hc.out]; simp⟩
            case measure => first | (simp [intOf]; done) | (simp [intOf]; omega)
        · obtain ⟨b, hB⟩ : ∃ b, bt s (a + 1) = b := ⟨_, rfl⟩
          have hb0 : 0 ≤ b := by rw [← hB]; exact bt_nonneg s _
          have hb1 : b ≤ 255 := by rw [← hB]; exact bt_le s _
          obtain ⟨c, hc⟩ : ∃ c, b % 128 = c := ⟨_, rfl⟩
          have hc0 : 0 ≤ c := by omega
          have hc1 : c < 128 := by omega
          have hn2 : n < 128 := by have := hn1.out; simpa using this
          have hm0 : 0 ≤ n + c * 128 := by omega
          have hm1 : n + c * 128 < 16384 := by omega
          have Hc := Lib.hid hc
          by_cases hl : b < 128
          · have Hcb := Lib.hid (show c = b by omega)
            by_cases hz : 0 < 1 ∧ b = 0
            · have Hz := Lib.hid hz
              clear hz
              have hbad := Lib.hid (hv.out.trans (gi_long (f := 3 - 1) (k := 1) (n := n) he (by rw [show bt s (a + 1) = b from hB]; exact hl) (by rw [show bt s (a + 1) = b from hB]; exact Hz.out)))
              have hlt : sz (n + c * 128) < 2 := by have := Hcb.out; have := Hz.out; have := sz_small (n := n + c * 128) (k := 1) hm0 (by simp; omega) (by omega); omega
              go_wp2_with fail
              refine (refsize_any _ _).mono ?_
              rintro e w' ⟨rfl, rfl⟩
              go_wp2
              go_ret3
              exact ⟨ret_get hbad.out, rfl⟩
            · have Hz := Lib.hid hz
              clear hz
              have hgo := Lib.hid (hv.out.trans (gi_last (f := 3 - 1) (k := 1) (n := n) he (by rw [show bt s (a + 1) = b from hB]; exact hl) (by rw [show bt s (a + 1) = b from hB]; exact Hz.out)))
              have hge : 2 ≤ sz (n + c * 128) := by have := Hcb.out; have := Hz.out; have := sz_exact (n := n + c * 128) (k := 1) hm0 (by simp; omega) (by first | omega | (simp; done) | (simp; omega)) (by omega); omega
              go_wp2_with fail
              refine (refsize_any _ _).mono ?_
              rintro e w' ⟨rfl, rfl⟩
              go_wp2
              go_ret3
              exact ⟨ret_get (by rw [hgo.out, show bt s (a + 1) = b from hB, Hcb.out]; simp), rfl⟩
          · have hgo := Lib.hid (hv.out.trans (gi_more (f := 3 - 1) (k := 1) (n := n) he (by rw [show bt s (a + 1) = b from hB]; omega)))
            go_wp2
            go_round
            case rel => exact ⟨1 + 1, n + c * 128, by go_num, rfl, by first | rfl | (simp; done), by omega, hm0, by simpa using hm1, by rw [hgo.out, show bt s (a + 1) = b from hB, Hc.out]; simp⟩
            case measure => first | (simp [intOf]; done) | (simp [intOf]; omega)
        · obtain ⟨b, hB⟩ : ∃ b, bt s (a + 2) = b := ⟨_, rfl⟩
          have hb0 : 0 ≤ b := by rw [← hB]; exact bt_nonneg s _
          have hb1 : b ≤ 255 := by rw [← hB]; exact bt_le s _
          obtain ⟨c, hc⟩ : ∃ c, b % 128 = c := ⟨_, rfl⟩
          have hc0 : 0 ≤ c := by omega
          have hc1 : c < 128 := by omega
          have hn2 : n < 16384 := by have := hn1.out; simpa using this
          have hm0 : 0 ≤ n + c * 16384 := by omega
          have hm1 : n + c * 16384 < 2097152 := by omega
          have Hc := Lib.hid hc
          by_cases hl : b < 128
          · have Hcb := Lib.hid (show c = b by omega)
            by_cases hz : 0 < 2 ∧ b = 0
            · have Hz := Lib.hid hz
              clear hz
              have hbad := Lib.hid (hv.out.trans (gi_long (f := 3 - 2) (k := 2) (n := n) he (by rw [show bt s (a + 2) = b from hB]; exact hl) (by rw [show bt s (a + 2) = b from hB]; exact Hz.out)))
              have hlt : sz (n + c * 16384) < 3 := by have := Hcb.out; have := Hz.out; have := sz_small (n := n + c * 16384) (k := 2) hm0 (by simp; omega) (by omega); omega
              go_wp2_with fail
              refine (refsize_any _ _).mono ?_
              rintro e w' ⟨rfl, rfl⟩
              go_wp2
              go_ret3
              exact ⟨ret_get hbad.out, rfl⟩
            · have Hz := Lib.hid hz
              clear hz
              have hgo := Lib.hid (hv.out.trans (gi_last (f := 3 - 2) (k := 2) (n := n) he (by rw [show bt s (a + 2) = b from hB]; exact hl) (by rw [show bt s (a + 2) = b from hB]; exact Hz.out)))
              have hge : 3 ≤ sz (n + c * 16384) := by have := Hcb.out; have := Hz.out; have := sz_exact (n := n + c * 16384) (k := 2) hm0 (by simp; omega) (by first | omega | (simp; done) | (simp; omega)) (by omega); omega
              go_wp2_with fail
              refine (refsize_any _ _).mono ?_
              rintro e w' ⟨rfl, rfl⟩
              go_wp2
              go_ret3
              exact ⟨ret_get (by rw [hgo.out, show bt s (a + 2) = b from hB, Hcb.out]; simp), rfl⟩
          · have hgo := Lib.hid (hv.out.trans (gi_more (f := 3 - 2) (k := 2) (n := n) he (by rw [show bt s (a + 2) = b from hB]; omega)))
            go_wp2
            go_round
            case rel => exact ⟨2 + 1, n + c * 16384, by go_num, rfl, by first | rfl | (simp; done), by omega, hm0, by simpa using hm1, by rw [hgo.out, show bt s (a + 2) = b from hB, Hc.out]; simp⟩
            case measure => first | (simp [intOf]; done) | (simp [intOf]; omega)
        · obtain ⟨b, hB⟩ : ∃ b, bt s (a + 3) = b := ⟨_, rfl⟩
          have hb0 : 0 ≤ b := by rw [← hB]; exact bt_nonneg s _
          have hb1 : b ≤ 255 := by rw [← hB]; exact bt_le s _
          obtain ⟨c, hc⟩ : ∃ c, b % 128 = c := ⟨_, rfl⟩
          have hc0 : 0 ≤ c := by omega
          have hc1 : c < 128 := by omega
          have hn2 : n < 2097152 := by have := hn1.out; simpa using this
          have hm0 : 0 ≤ n + c * 2097152 := by omega
          have hm1 : n + c * 2097152 < 268435456 := by omega
          have Hc := Lib.hid hc
          by_cases hl : b < 128
          · have Hcb := Lib.hid (show c = b by omega)
            by_cases hz : 0 < 3 ∧ b = 0
            · have Hz := Lib.hid hz
              clear hz
              have hbad := Lib.hid (hv.out.trans (gi_long (f := 3 - 3) (k := 3) (n := n) he (by rw [show bt s (a + 3) = b from hB]; exact hl) (by rw [show bt s (a + 3) = b from hB]; exact Hz.out)))
              have hlt : sz (n + c * 2097152) < 4 := by have := Hcb.out; have := Hz.out; have := sz_small (n := n + c * 2097152) (k := 3) hm0 (by simp; omega) (by omega); omega
              go_wp2_with fail
              refine (refsize_any _ _).mono ?_
              rintro e w' ⟨rfl, rfl⟩
              go_wp2
              go_ret3
              exact ⟨ret_get hbad.out, rfl⟩
            · have Hz := Lib.hid hz
              clear hz
              have hgo := Lib.hid (hv.out.trans (gi_last (f := 3 - 3) (k := 3) (n := n) he (by rw [show bt s (a + 3) = b from hB]; exact hl) (by rw [show bt s (a + 3) = b from hB]; exact Hz.out)))
              have hge : 4 ≤ sz (n + c * 2097152) := by have := Hcb.out; have := Hz.out; have := sz_exact (n := n + c * 2097152) (k := 3) hm0 (by simp; omega) (by first | omega | (simp; done) | (simp; omega)) (by omega); omega
              go_wp2_with fail
              refine (refsize_any _ _).mono ?_
              rintro e w' ⟨rfl, rfl⟩
              go_wp2
              go_ret3
              exact ⟨ret_get (by rw [hgo.out, show bt s (a + 3) = b from hB, Hcb.out]; simp), rfl⟩
          · have hgo := Lib.hid (hv.out.trans (gi_more (f := 3 - 3) (k := 3) (n := n) he (by rw [show bt s (a + 3) = b from hB]; omega)))
            go_wp2
            go_round
            case rel => exact ⟨3 + 1, n + c * 2097152, by go_num, rfl, by first | rfl | (simp; done), by omega, hm0, by simpa using hm1, by rw [hgo.out, show bt s (a + 3) = b from hB, Hc.out]; simp⟩
            case measure => first | (simp [intOf]; done) | (simp [intOf]; omega)

theorem refget_all (s : ByteArray) (at_ : Int) (w : World) (hs : s.size ≤ 140737488351232) (h0 : -9223372036854775808 ≤ at_) (h1 : at_ ≤ 9223372036854775807) :
    Calls Tryd.prog 36 #[.string s, .int .i64 at_] w fun e w' => e = .returned (.tuple #[.int .i64 (getV s at_).1, .int .i64 (getV s at_).2.1, .int .i64 (getV s at_).2.2]) ∧ w = w' := by
  by_cases hb : at_ < 0 ∨ (s.size : Int) < at_
  · have hg := Lib.hid (getV_bad hb)
    go_enter Tryd.func36, Tryd.ntmps36
    go_wp2
    all_goals go_ret3
    all_goals exact ⟨ret_get hg.out, rfl⟩
  · obtain ⟨a, rfl⟩ := Int.eq_ofNat_of_zero_le (show 0 ≤ at_ by omega)
    rw [getV_ok (show a ≤ s.size by omega)]
    exact refget_in s a w hs (by omega)
end Go.Proofs.YtedapgeabpadaaaDoor

namespace Go.Proofs.YtedapgeabpadaaaDoor
set_option linter.unusedVariables false
open Go.RowKit Pl

def noS : ByteArray := ⟨#[]⟩
/-- The value of a property at a place: the property, the place behind it; none: it isn't there. -/
def rdv (s : ByteArray) (id : Int) (a : Int) : Option (Pp × Int) :=
  if kindOf id = 4 then (if (getV s a).2.2 = 0 then some (⟨id, (getV s a).1, noS, noS⟩, (getV s a).2.1) else none)
  else if kindOf id = 5 then (if (getD s a).2.2 = 0 then some (⟨id, 0, (getD s a).1, noS⟩, (getD s a).2.1) else none)
  else if kindOf id = 6 then (if (tget s a).2.2 = 0 then some (⟨id, 0, (tget s a).1, noS⟩, (tget s a).2.1) else none)
  else if kindOf id = 7 then (if (tget s a).2.2 = 0 then (if (tget s (tget s a).2.1).2.2 = 0 then some (⟨id, 0, (tget s a).1, (tget s (tget s a).2.1).1⟩, (tget s (tget s a).2.1).2.1) else none) else none)
  else (if (getF s a (wid (kindOf id))).2.2 = 0 then some (⟨id, (getF s a (wid (kindOf id))).1, noS, noS⟩, (getF s a (wid (kindOf id))).2.1) else none)
def dupL (L : List Pp) (id : Int) : Bool := L.any (fun p => p.id == id) && (id != 38)
/-- The rest of the properties, behind those that have been read. -/
def pgs (s : ByteArray) : Nat → List Pp → Int → List Pp × Int
  | 0, L, _ => (L, 0)
  | f + 1, L, a =>
    if (s.size : Int) ≤ a then (L, 0) else if 64 ≤ L.length then ([], 149)
    else if (getV s a).2.2 ≠ 0 ∨ kindOf (getV s a).1 = 0 then ([], 129)
    else if dupL L (getV s a).1 = true then ([], 130)
    else match rdv s (getV s a).1 (getV s a).2.1 with
      | none => ([], 129)
      | some (p, tu) => pgs s f (L ++ [p]) tu
def getP (s : ByteArray) (at_ : Int) : List Pp × Int × Int :=
  if (getV s at_).2.2 ≠ 0 then ([], 0, (getV s at_).2.2)
  else if (s.size : Int) - (getV s at_).2.1 < (getV s at_).1 then ([], 0, 242)
  else
    let r := pgs (s.extract (getV s at_).2.1.toNat ((getV s at_).2.1.toNat + (getV s at_).1.toNat)) 66 [] 0
    if r.2 ≠ 0 then ([], 0, r.2) else (r.1, (getV s at_).2.1 + (getV s at_).1, 0)
theorem pgs_end {s : ByteArray} {f : Nat} {L : List Pp} {a : Int} (h : (s.size : Int) ≤ a) : pgs s f L a = (L, 0) := by
  cases f with
  | zero => rfl
  | succ f => unfold pgs; rw [if_pos h]
theorem pgs_full {s : ByteArray} {f : Nat} {L : List Pp} {a : Int} (h : ¬ (s.size : Int) ≤ a) (h1 : 64 ≤ L.length) : pgs s (f + 1) L a = ([], 149) := by
  unfold pgs; rw [if_neg h, if_pos h1]
theorem pgs_bad {s : ByteArray} {f : Nat} {L : List Pp} {a id nx d : Int} (h : ¬ (s.size : Int) ≤ a) (h1 : ¬ 64 ≤ L.length) (hg : getV s a = (id, nx, d)) (h2 : d ≠ 0 ∨ kindOf id = 0) : pgs s (f + 1) L a = ([], 129) := by
  unfold pgs; rw [if_neg h, if_neg h1, hg, if_pos h2]
theorem pgs_dup {s : ByteArray} {f : Nat} {L : List Pp} {a id nx : Int} (h : ¬ (s.size : Int) ≤ a) (h1 : ¬ 64 ≤ L.length) (hg : getV s a = (id, nx, 0)) (h2 : ¬ kindOf id = 0) (h3 : dupL L id = true) : pgs s (f + 1) L a = ([], 130) := by
  unfold pgs; rw [if_neg h, if_neg h1, hg]
  simp only [ne_eq, not_true_eq_false, false_or]
  rw [if_neg h2, if_pos h3]
theorem pgs_rd {s : ByteArray} {f : Nat} {L : List Pp} {a id nx : Int} (h : ¬ (s.size : Int) ≤ a) (h1 : ¬ 64 ≤ L.length) (hg : getV s a = (id, nx, 0)) (h2 : ¬ kindOf id = 0) (h3 : dupL L id = false) :
    pgs s (f + 1) L a = match rdv s id nx with | none => ([], 129) | some (p, tu) => pgs s f (L ++ [p]) tu := by
  show (if (s.size : Int) ≤ a then (L, 0) else if 64 ≤ L.length then ([], 149) else if (getV s a).2.2 ≠ 0 ∨ kindOf (getV s a).1 = 0 then ([], 129) else if dupL L (getV s a).1 = true then ([], 130) else match rdv s (getV s a).1 (getV s a).2.1 with | none => ([], 129) | some (p, tu) => pgs s f (L ++ [p]) tu) = _
  rw [if_neg h, if_neg h1, hg]
  simp only [ne_eq, not_true_eq_false, false_or]
  rw [if_neg h2, if_neg (by rw [h3]; decide)]
theorem getP_code {s : ByteArray} {at_ n f c : Int} (h : getV s at_ = (n, f, c)) (hc : c ≠ 0) : getP s at_ = ([], 0, c) := by unfold getP; rw [h]; simp [hc]
theorem getP_none {s : ByteArray} {at_ n f : Int} (h : getV s at_ = (n, f, 0)) (hn : (s.size : Int) - f < n) : getP s at_ = ([], 0, 242) := by unfold getP; rw [h]; simp [hn]
theorem getP_bad {s : ByteArray} {at_ : Int} {m f : Nat} {L : List Pp} {c : Int} (h : getV s at_ = ((m : Int), (f : Int), 0)) (hn : f + m ≤ s.size) (hr : pgs (s.extract f (f + m)) 66 [] 0 = (L, c)) (hc : c ≠ 0) : getP s at_ = ([], 0, c) := by
  unfold getP; rw [h]
  simp only [ne_eq, not_true_eq_false, if_false, Int.toNat_natCast]
  rw [if_neg (by omega), hr]
  simp [hc]
theorem getP_ok {s : ByteArray} {at_ : Int} {m f : Nat} {L : List Pp} (h : getV s at_ = ((m : Int), (f : Int), 0)) (hn : f + m ≤ s.size) (hr : pgs (s.extract f (f + m)) 66 [] 0 = (L, 0)) : getP s at_ = (L, (f : Int) + m, 0) := by
  unfold getP; rw [h]
  simp only [ne_eq, not_true_eq_false, if_false, Int.toNat_natCast]
  rw [if_neg (by omega), hr]
  simp
theorem pgs_codes (s : ByteArray) : ∀ (f : Nat) (L : List Pp) (a : Int), L.length ≤ 64 → (0 ≤ (pgs s f L a).2 ∧ (pgs s f L a).2 ≤ 149) ∧ (pgs s f L a).1.length ≤ 64
  | 0, L, a, h => ⟨⟨Int.le_refl 0, (by decide : (0 : Int) ≤ 149)⟩, h⟩
  | f + 1, L, a, h => by
    unfold pgs
    split
    · exact ⟨⟨Int.le_refl 0, (by decide : (0 : Int) ≤ 149)⟩, h⟩
    · split
      · exact ⟨⟨by decide, by decide⟩, by decide⟩
      · split
        · exact ⟨⟨by decide, by decide⟩, by decide⟩
        · split
          · exact ⟨⟨by decide, by decide⟩, by decide⟩
          · split
            · exact ⟨⟨by decide, by decide⟩, by decide⟩
            · exact pgs_codes s f _ _ (by rw [List.length_append]; simp; omega)
theorem getP_codes (s : ByteArray) (a : Int) : (0 ≤ (getP s a).2.2 ∧ (getP s a).2.2 ≤ 242) ∧ (getP s a).1.length ≤ 64 := by
  have hv := getV_code s a
  unfold getP
  split
  · exact ⟨hv, by simp⟩
  · split
    · exact ⟨⟨by decide, by decide⟩, by simp⟩
    · have h := pgs_codes (s.extract (getV s a).2.1.toNat ((getV s a).2.1.toNat + (getV s a).1.toNat)) 66 [] 0 (by decide)
      simp only
      split
      · exact ⟨⟨h.1.1, by have := h.1.2; simp only; omega⟩, by simp⟩
      · exact ⟨⟨by simp, by simp⟩, h.2⟩
end Go.Proofs.YtedapgeabpadaaaDoor

namespace Go.Proofs.YtedapgeabpadaaaDoor.Pl
/-- The identifiers of the properties that packets of a kind may have. -/
def allowL (k : Int) : List Int :=
  if k = 0 then [1, 2, 3, 8, 9, 24, 38] else
  if k = 1 then [17, 21, 22, 23, 25, 33, 34, 38, 39] else
  if k = 2 then [17, 18, 19, 21, 22, 26, 28, 31, 33, 34, 36, 37, 38, 39, 40, 41, 42] else
  if k = 3 then [1, 2, 3, 8, 9, 11, 35, 38] else
  if k = 4 then [31, 38] else
  if k = 5 then [31, 38] else
  if k = 6 then [31, 38] else
  if k = 7 then [31, 38] else
  if k = 8 then [11, 38] else
  if k = 9 then [31, 38] else
  if k = 10 then [38] else
  if k = 11 then [31, 38] else
  if k = 14 then [17, 28, 31, 38] else
  if k = 15 then [21, 22, 31, 38] else []
/-- May packets of a kind have a property? -/
def alw (k n : Int) : Bool := isIn n (allowL k)
theorem alw_other {k : Int} (n : Int) (h0 : (k == 0) = false) (h1 : (k == 1) = false) (h2 : (k == 2) = false) (h3 : (k == 3) = false) (h4 : (k == 4) = false) (h5 : (k == 5) = false) (h6 : (k == 6) = false) (h7 : (k == 7) = false) (h8 : (k == 8) = false) (h9 : (k == 9) = false) (h10 : (k == 10) = false) (h11 : (k == 11) = false) (h14 : (k == 14) = false) (h15 : (k == 15) = false) : alw k n = false := by
  simp only [beq_eq_false_iff_ne, ne_eq] at *
  unfold alw allowL
  simp [h0, h1, h2, h3, h4, h5, h6, h7, h8, h9, h10, h11, h14, h15, isIn]
theorem isIn_two (n a b : Int) : isIn n [a, b] = (n == a || n == b) := by
  by_cases h : n = a <;> by_cases h2 : n = b <;> simp [isIn, h, h2]
theorem isIn_one (n a : Int) : isIn n [a] = (n == a) := by
  by_cases h : n = a <;> simp [isIn, h]
theorem alw_2 (n : Int) : alw 2 n = (isIn n [17, 18, 19, 21, 22, 26, 28, 31, 33, 34] || (decide (36 ≤ n) && decide (n ≤ 42))) := by
  unfold alw
  show isIn n [17, 18, 19, 21, 22, 26, 28, 31, 33, 34, 36, 37, 38, 39, 40, 41, 42] = _
  by_cases h : 36 ≤ n ∧ n ≤ 42
  · obtain rfl | rfl | rfl | rfl | rfl | rfl | rfl : n = 36 ∨ n = 37 ∨ n = 38 ∨ n = 39 ∨ n = 40 ∨ n = 41 ∨ n = 42 := by omega
    all_goals decide
  · have e : (decide (36 ≤ n) && decide (n ≤ 42)) = false := by
      rw [Bool.and_eq_false_iff]
      simp only [decide_eq_false_iff_not]
      omega
    rw [e, Bool.or_false]
    unfold isIn
    congr 1
    simp only [List.mem_cons, List.not_mem_nil, or_false, eq_iff_iff]
    omega
end Go.Proofs.YtedapgeabpadaaaDoor.Pl

namespace Go.Proofs.YtedapgeabpadaaaDoor
set_option linter.unusedVariables false
open Go.RowKit Pl

/-- Bytes so far, and the first code. -/
structure Ot where
  s : ByteArray
  c : Int
def mix (c d : Int) : Int := if c = 0 then d else c
def Ot.add (o : Ot) (t : ByteArray) (d : Int) : Ot := ⟨o.s ++ t, mix o.c d⟩
def Ot.fail (o : Ot) (d : Int) : Ot := ⟨o.s, mix o.c d⟩
/-- Are all properties such as packets of a kind may have? -/
def okAll (k : Int) (L : List Pp) : Bool := !L.any (fun p => !alw k p.id)
/-- One filter of a SUBSCRIBE. -/
structure Sb where
  f : ByteArray
  q : Int
  nl : Bool
  ap : Bool
  h : Int
structure Pk where
  kind : Int
  dup : Bool
  ret : Bool
  q : Int
  id : Int
  topic : ByteArray
  payload : ByteArray
  code : Int
  codes : List Int
  ps : List Pp
  client : ByteArray
  clean : Bool
  keep : Int
  hasWill : Bool
  wt : ByteArray
  wp : ByteArray
  wq : Int
  wr : Bool
  wps : List Pp
  hasUser : Bool
  hasPass : Bool
  user : ByteArray
  pass : ByteArray
  session : Bool
  subs : List Sb
  filters : List ByteArray
def name5 : ByteArray := ⟨#[77, 81, 84, 84]⟩
def kFlags (k : Int) : Int := if k = 6 ∨ k = 8 ∨ k = 10 then 2 else 0
end Go.Proofs.YtedapgeabpadaaaDoor

