/- The walks of the document's Char, Fault, Runes and Cut. -/
import Derived.Test.YtifbkfkieppacaaDoorTail
namespace Go.Proofs.YtifbkfkieppacaaDoor
open Go.RowKit Pl Go.Shelf
set_option linter.unusedVariables false
open Go.PlainAid (bt bt_nonneg bt_le get_bt bt_end)

theorem tail_at (s : ByteArray) (x : Int) (k : Nat) (hx : x = k) (lo hi : Int) (w : World) :
    Calls Tryd.prog 61 #[.string s, .int .i64 x, .int .i64 lo, .int .i64 hi] w fun e w' => e = .returned (.bool (tl s k lo hi)) ∧ w = w' := by
  subst hx
  exact tail_any s k lo hi w

theorem char_1 (s : ByteArray) (a : Nat) (ha : a < s.size) (w : World) (hs : s.size ≤ 281474976710656) (h1 : 1 ≤ bt s a) (h2 : bt s a ≤ 127) :
    Calls Tryd.prog 59 #[.string s, .int .i64 a] w fun e w' => e = .returned (.int .i64 (1)) ∧ w = w' := by
  have hbt := get_bt s
  have hb0 := bt_nonneg s a
  have hb1 := bt_le s a
  go_enter Tryd.func59, Tryd.ntmps59
  go_wp2_with fail
  go_wp2
  all_goals go_ret
  all_goals exact ⟨rfl, rfl⟩

theorem char_0a (s : ByteArray) (a : Nat) (ha : a < s.size) (w : World) (hs : s.size ≤ 281474976710656) (h1 : bt s a = 0) :
    Calls Tryd.prog 59 #[.string s, .int .i64 a] w fun e w' => e = .returned (.int .i64 (0)) ∧ w = w' := by
  have hbt := get_bt s
  have hb0 := bt_nonneg s a
  have hb1 := bt_le s a
  go_enter Tryd.func59, Tryd.ntmps59
  go_wp2_with fail
  refine (tail_at s _ (a + 1) (by omega) 128 191 _).mono ?_
  rintro e w' ⟨rfl, rfl⟩
  go_wp2_with fail
  refine (tail_at s _ (a + 2) (by omega) 128 191 _).mono ?_
  rintro e w' ⟨rfl, rfl⟩
  go_wp2_with fail
  refine (tail_at s _ (a + 3) (by omega) 128 191 _).mono ?_
  rintro e w' ⟨rfl, rfl⟩
  go_wp2_with fail
  go_wp2
  all_goals go_ret
  all_goals exact ⟨rfl, rfl⟩

theorem char_0b (s : ByteArray) (a : Nat) (ha : a < s.size) (w : World) (hs : s.size ≤ 281474976710656) (h1 : 128 ≤ bt s a) (h2 : bt s a ≤ 193) :
    Calls Tryd.prog 59 #[.string s, .int .i64 a] w fun e w' => e = .returned (.int .i64 (0)) ∧ w = w' := by
  have hbt := get_bt s
  have hb0 := bt_nonneg s a
  have hb1 := bt_le s a
  go_enter Tryd.func59, Tryd.ntmps59
  go_wp2_with fail
  refine (tail_at s _ (a + 1) (by omega) 128 191 _).mono ?_
  rintro e w' ⟨rfl, rfl⟩
  go_wp2_with fail
  refine (tail_at s _ (a + 2) (by omega) 128 191 _).mono ?_
  rintro e w' ⟨rfl, rfl⟩
  go_wp2_with fail
  refine (tail_at s _ (a + 3) (by omega) 128 191 _).mono ?_
  rintro e w' ⟨rfl, rfl⟩
  go_wp2_with fail
  go_wp2
  all_goals go_ret
  all_goals exact ⟨rfl, rfl⟩

theorem char_0c (s : ByteArray) (a : Nat) (ha : a < s.size) (w : World) (hs : s.size ≤ 281474976710656) (h1 : 245 ≤ bt s a) :
    Calls Tryd.prog 59 #[.string s, .int .i64 a] w fun e w' => e = .returned (.int .i64 (0)) ∧ w = w' := by
  have hbt := get_bt s
  have hb0 := bt_nonneg s a
  have hb1 := bt_le s a
  go_enter Tryd.func59, Tryd.ntmps59
  go_wp2_with fail
  refine (tail_at s _ (a + 1) (by omega) 128 191 _).mono ?_
  rintro e w' ⟨rfl, rfl⟩
  go_wp2_with fail
  refine (tail_at s _ (a + 2) (by omega) 128 191 _).mono ?_
  rintro e w' ⟨rfl, rfl⟩
  go_wp2_with fail
  refine (tail_at s _ (a + 3) (by omega) 128 191 _).mono ?_
  rintro e w' ⟨rfl, rfl⟩
  go_wp2_with fail
  go_wp2
  all_goals go_ret
  all_goals exact ⟨rfl, rfl⟩

theorem char_2 (s : ByteArray) (a : Nat) (ha : a < s.size) (w : World) (hs : s.size ≤ 281474976710656) (h1 : 194 ≤ bt s a) (h2 : bt s a ≤ 223) (t1 : tl s (a + 1) 128 191 = true) :
    Calls Tryd.prog 59 #[.string s, .int .i64 a] w fun e w' => e = .returned (.int .i64 (2)) ∧ w = w' := by
  have hbt := get_bt s
  have hb0 := bt_nonneg s a
  have hb1 := bt_le s a
  go_enter Tryd.func59, Tryd.ntmps59
  go_wp2_with fail
  refine (tail_at s _ (a + 1) (by omega) 128 191 _).mono ?_
  rintro e w' ⟨rfl, rfl⟩
  rw [t1]
  go_wp2_with fail
  refine (tail_at s _ (a + 2) (by omega) 128 191 _).mono ?_
  rintro e w' ⟨rfl, rfl⟩
  go_wp2_with fail
  refine (tail_at s _ (a + 3) (by omega) 128 191 _).mono ?_
  rintro e w' ⟨rfl, rfl⟩
  go_wp2_with fail
  go_wp2
  all_goals go_ret
  all_goals exact ⟨rfl, rfl⟩

theorem char_2n (s : ByteArray) (a : Nat) (ha : a < s.size) (w : World) (hs : s.size ≤ 281474976710656) (h1 : 194 ≤ bt s a) (h2 : bt s a ≤ 223) (t1 : tl s (a + 1) 128 191 = false) :
    Calls Tryd.prog 59 #[.string s, .int .i64 a] w fun e w' => e = .returned (.int .i64 (0)) ∧ w = w' := by
  have hbt := get_bt s
  have hb0 := bt_nonneg s a
  have hb1 := bt_le s a
  go_enter Tryd.func59, Tryd.ntmps59
  go_wp2_with fail
  refine (tail_at s _ (a + 1) (by omega) 128 191 _).mono ?_
  rintro e w' ⟨rfl, rfl⟩
  rw [t1]
  go_wp2_with fail
  refine (tail_at s _ (a + 2) (by omega) 128 191 _).mono ?_
  rintro e w' ⟨rfl, rfl⟩
  go_wp2_with fail
  refine (tail_at s _ (a + 3) (by omega) 128 191 _).mono ?_
  rintro e w' ⟨rfl, rfl⟩
  go_wp2_with fail
  go_wp2
  all_goals go_ret
  all_goals exact ⟨rfl, rfl⟩

theorem char_3n1 (s : ByteArray) (a : Nat) (ha : a < s.size) (w : World) (hs : s.size ≤ 281474976710656) (h1 : 224 ≤ bt s a) (h2 : bt s a ≤ 239) (t1 : tl s (a + 1) 128 191 = false) :
    Calls Tryd.prog 59 #[.string s, .int .i64 a] w fun e w' => e = .returned (.int .i64 (0)) ∧ w = w' := by
  have hbt := get_bt s
  have hb0 := bt_nonneg s a
  have hb1 := bt_le s a
  go_enter Tryd.func59, Tryd.ntmps59
  go_wp2_with fail
  refine (tail_at s _ (a + 1) (by omega) 128 191 _).mono ?_
  rintro e w' ⟨rfl, rfl⟩
  rw [t1]
  go_wp2_with fail
  refine (tail_at s _ (a + 2) (by omega) 128 191 _).mono ?_
  rintro e w' ⟨rfl, rfl⟩
  go_wp2_with fail
  refine (tail_at s _ (a + 3) (by omega) 128 191 _).mono ?_
  rintro e w' ⟨rfl, rfl⟩
  go_wp2_with fail
  go_wp2
  all_goals go_ret
  all_goals exact ⟨rfl, rfl⟩

theorem char_3n2 (s : ByteArray) (a : Nat) (ha : a < s.size) (w : World) (hs : s.size ≤ 281474976710656) (h1 : 224 ≤ bt s a) (h2 : bt s a ≤ 239) (t1 : tl s (a + 1) 128 191 = true) (t2 : tl s (a + 2) 128 191 = false) :
    Calls Tryd.prog 59 #[.string s, .int .i64 a] w fun e w' => e = .returned (.int .i64 (0)) ∧ w = w' := by
  have hbt := get_bt s
  have hb0 := bt_nonneg s a
  have hb1 := bt_le s a
  go_enter Tryd.func59, Tryd.ntmps59
  go_wp2_with fail
  refine (tail_at s _ (a + 1) (by omega) 128 191 _).mono ?_
  rintro e w' ⟨rfl, rfl⟩
  rw [t1]
  go_wp2_with fail
  refine (tail_at s _ (a + 2) (by omega) 128 191 _).mono ?_
  rintro e w' ⟨rfl, rfl⟩
  rw [t2]
  go_wp2_with fail
  refine (tail_at s _ (a + 3) (by omega) 128 191 _).mono ?_
  rintro e w' ⟨rfl, rfl⟩
  go_wp2_with fail
  go_wp2
  all_goals go_ret
  all_goals exact ⟨rfl, rfl⟩

theorem char_3 (s : ByteArray) (a : Nat) (ha : a < s.size) (w : World) (hs : s.size ≤ 281474976710656) (h1 : 224 ≤ bt s a) (h2 : bt s a ≤ 239) (t1 : tl s (a + 1) 128 191 = true) (t2 : tl s (a + 2) 128 191 = true) (h3 : (bt s a == 224) = false) (h4 : (bt s a == 237) = false) :
    Calls Tryd.prog 59 #[.string s, .int .i64 a] w fun e w' => e = .returned (.int .i64 (3)) ∧ w = w' := by
  have hbt := get_bt s
  have hb0 := bt_nonneg s a
  have hb1 := bt_le s a
  go_enter Tryd.func59, Tryd.ntmps59
  go_wp2_with fail
  refine (tail_at s _ (a + 1) (by omega) 128 191 _).mono ?_
  rintro e w' ⟨rfl, rfl⟩
  rw [t1]
  go_wp2_with fail
  refine (tail_at s _ (a + 2) (by omega) 128 191 _).mono ?_
  rintro e w' ⟨rfl, rfl⟩
  rw [t2]
  go_wp2_with fail
  refine (tail_at s _ (a + 3) (by omega) 128 191 _).mono ?_
  rintro e w' ⟨rfl, rfl⟩
  go_wp2_with fail
  refine (tail_at s _ (a + 1) (by omega) 160 191 _).mono ?_
  rintro e w' ⟨rfl, rfl⟩
  go_wp2_with fail
  refine (tail_at s _ (a + 1) (by omega) 128 159 _).mono ?_
  rintro e w' ⟨rfl, rfl⟩
  go_wp2_with fail
  go_wp2
  all_goals go_ret
  all_goals exact ⟨rfl, rfl⟩

theorem char_3_224_true (s : ByteArray) (a : Nat) (ha : a < s.size) (w : World) (hs : s.size ≤ 281474976710656) (h1 : 224 ≤ bt s a) (h2 : bt s a ≤ 239) (t1 : tl s (a + 1) 128 191 = true) (t2 : tl s (a + 2) 128 191 = true) (h3 : bt s a = 224) (t4 : tl s (a + 1) 160 191 = true) :
    Calls Tryd.prog 59 #[.string s, .int .i64 a] w fun e w' => e = .returned (.int .i64 (3)) ∧ w = w' := by
  have hbt := get_bt s
  have hb0 := bt_nonneg s a
  have hb1 := bt_le s a
  go_enter Tryd.func59, Tryd.ntmps59
  go_wp2_with fail
  refine (tail_at s _ (a + 1) (by omega) 128 191 _).mono ?_
  rintro e w' ⟨rfl, rfl⟩
  rw [t1]
  go_wp2_with fail
  refine (tail_at s _ (a + 2) (by omega) 128 191 _).mono ?_
  rintro e w' ⟨rfl, rfl⟩
  rw [t2]
  go_wp2_with fail
  refine (tail_at s _ (a + 3) (by omega) 128 191 _).mono ?_
  rintro e w' ⟨rfl, rfl⟩
  go_wp2_with fail
  refine (tail_at s _ (a + 1) (by omega) 160 191 _).mono ?_
  rintro e w' ⟨rfl, rfl⟩
  rw [t4]
  go_wp2_with fail
  refine (tail_at s _ (a + 1) (by omega) 128 159 _).mono ?_
  rintro e w' ⟨rfl, rfl⟩
  go_wp2_with fail
  go_wp2
  all_goals go_ret
  all_goals exact ⟨rfl, rfl⟩

theorem char_3_224_false (s : ByteArray) (a : Nat) (ha : a < s.size) (w : World) (hs : s.size ≤ 281474976710656) (h1 : 224 ≤ bt s a) (h2 : bt s a ≤ 239) (t1 : tl s (a + 1) 128 191 = true) (t2 : tl s (a + 2) 128 191 = true) (h3 : bt s a = 224) (t4 : tl s (a + 1) 160 191 = false) :
    Calls Tryd.prog 59 #[.string s, .int .i64 a] w fun e w' => e = .returned (.int .i64 (0)) ∧ w = w' := by
  have hbt := get_bt s
  have hb0 := bt_nonneg s a
  have hb1 := bt_le s a
  go_enter Tryd.func59, Tryd.ntmps59
  go_wp2_with fail
  refine (tail_at s _ (a + 1) (by omega) 128 191 _).mono ?_
  rintro e w' ⟨rfl, rfl⟩
  rw [t1]
  go_wp2_with fail
  refine (tail_at s _ (a + 2) (by omega) 128 191 _).mono ?_
  rintro e w' ⟨rfl, rfl⟩
  rw [t2]
  go_wp2_with fail
  refine (tail_at s _ (a + 3) (by omega) 128 191 _).mono ?_
  rintro e w' ⟨rfl, rfl⟩
  go_wp2_with fail
  refine (tail_at s _ (a + 1) (by omega) 160 191 _).mono ?_
  rintro e w' ⟨rfl, rfl⟩
  rw [t4]
  go_wp2_with fail
  refine (tail_at s _ (a + 1) (by omega) 128 159 _).mono ?_
  rintro e w' ⟨rfl, rfl⟩
  go_wp2_with fail
  go_wp2
  all_goals go_ret
  all_goals exact ⟨rfl, rfl⟩

theorem char_3_237_true (s : ByteArray) (a : Nat) (ha : a < s.size) (w : World) (hs : s.size ≤ 281474976710656) (h1 : 224 ≤ bt s a) (h2 : bt s a ≤ 239) (t1 : tl s (a + 1) 128 191 = true) (t2 : tl s (a + 2) 128 191 = true) (h3 : bt s a = 237) (t4 : tl s (a + 1) 128 159 = true) :
    Calls Tryd.prog 59 #[.string s, .int .i64 a] w fun e w' => e = .returned (.int .i64 (3)) ∧ w = w' := by
  have hbt := get_bt s
  have hb0 := bt_nonneg s a
  have hb1 := bt_le s a
  go_enter Tryd.func59, Tryd.ntmps59
  go_wp2_with fail
  refine (tail_at s _ (a + 1) (by omega) 128 191 _).mono ?_
  rintro e w' ⟨rfl, rfl⟩
  rw [t1]
  go_wp2_with fail
  refine (tail_at s _ (a + 2) (by omega) 128 191 _).mono ?_
  rintro e w' ⟨rfl, rfl⟩
  rw [t2]
  go_wp2_with fail
  refine (tail_at s _ (a + 3) (by omega) 128 191 _).mono ?_
  rintro e w' ⟨rfl, rfl⟩
  go_wp2_with fail
  refine (tail_at s _ (a + 1) (by omega) 160 191 _).mono ?_
  rintro e w' ⟨rfl, rfl⟩
  go_wp2_with fail
  refine (tail_at s _ (a + 1) (by omega) 128 159 _).mono ?_
  rintro e w' ⟨rfl, rfl⟩
  rw [t4]
  go_wp2_with fail
  go_wp2
  all_goals go_ret
  all_goals exact ⟨rfl, rfl⟩

theorem char_3_237_false (s : ByteArray) (a : Nat) (ha : a < s.size) (w : World) (hs : s.size ≤ 281474976710656) (h1 : 224 ≤ bt s a) (h2 : bt s a ≤ 239) (t1 : tl s (a + 1) 128 191 = true) (t2 : tl s (a + 2) 128 191 = true) (h3 : bt s a = 237) (t4 : tl s (a + 1) 128 159 = false) :
    Calls Tryd.prog 59 #[.string s, .int .i64 a] w fun e w' => e = .returned (.int .i64 (0)) ∧ w = w' := by
  have hbt := get_bt s
  have hb0 := bt_nonneg s a
  have hb1 := bt_le s a
  go_enter Tryd.func59, Tryd.ntmps59
  go_wp2_with fail
  refine (tail_at s _ (a + 1) (by omega) 128 191 _).mono ?_
  rintro e w' ⟨rfl, rfl⟩
  rw [t1]
  go_wp2_with fail
  refine (tail_at s _ (a + 2) (by omega) 128 191 _).mono ?_
  rintro e w' ⟨rfl, rfl⟩
  rw [t2]
  go_wp2_with fail
  refine (tail_at s _ (a + 3) (by omega) 128 191 _).mono ?_
  rintro e w' ⟨rfl, rfl⟩
  go_wp2_with fail
  refine (tail_at s _ (a + 1) (by omega) 160 191 _).mono ?_
  rintro e w' ⟨rfl, rfl⟩
  go_wp2_with fail
  refine (tail_at s _ (a + 1) (by omega) 128 159 _).mono ?_
  rintro e w' ⟨rfl, rfl⟩
  rw [t4]
  go_wp2_with fail
  go_wp2
  all_goals go_ret
  all_goals exact ⟨rfl, rfl⟩

theorem char_4n1 (s : ByteArray) (a : Nat) (ha : a < s.size) (w : World) (hs : s.size ≤ 281474976710656) (h1 : 240 ≤ bt s a) (h2 : bt s a ≤ 244) (t1 : tl s (a + 1) 128 191 = false) :
    Calls Tryd.prog 59 #[.string s, .int .i64 a] w fun e w' => e = .returned (.int .i64 (0)) ∧ w = w' := by
  have hbt := get_bt s
  have hb0 := bt_nonneg s a
  have hb1 := bt_le s a
  go_enter Tryd.func59, Tryd.ntmps59
  go_wp2_with fail
  refine (tail_at s _ (a + 1) (by omega) 128 191 _).mono ?_
  rintro e w' ⟨rfl, rfl⟩
  rw [t1]
  go_wp2_with fail
  refine (tail_at s _ (a + 2) (by omega) 128 191 _).mono ?_
  rintro e w' ⟨rfl, rfl⟩
  go_wp2_with fail
  refine (tail_at s _ (a + 3) (by omega) 128 191 _).mono ?_
  rintro e w' ⟨rfl, rfl⟩
  go_wp2_with fail
  go_wp2
  all_goals go_ret
  all_goals exact ⟨rfl, rfl⟩

theorem char_4n2 (s : ByteArray) (a : Nat) (ha : a < s.size) (w : World) (hs : s.size ≤ 281474976710656) (h1 : 240 ≤ bt s a) (h2 : bt s a ≤ 244) (t1 : tl s (a + 1) 128 191 = true) (t2 : tl s (a + 2) 128 191 = false) :
    Calls Tryd.prog 59 #[.string s, .int .i64 a] w fun e w' => e = .returned (.int .i64 (0)) ∧ w = w' := by
  have hbt := get_bt s
  have hb0 := bt_nonneg s a
  have hb1 := bt_le s a
  go_enter Tryd.func59, Tryd.ntmps59
  go_wp2_with fail
  refine (tail_at s _ (a + 1) (by omega) 128 191 _).mono ?_
  rintro e w' ⟨rfl, rfl⟩
  rw [t1]
  go_wp2_with fail
  refine (tail_at s _ (a + 2) (by omega) 128 191 _).mono ?_
  rintro e w' ⟨rfl, rfl⟩
  rw [t2]
  go_wp2_with fail
  refine (tail_at s _ (a + 3) (by omega) 128 191 _).mono ?_
  rintro e w' ⟨rfl, rfl⟩
  go_wp2_with fail
  go_wp2
  all_goals go_ret
  all_goals exact ⟨rfl, rfl⟩

theorem char_4n3 (s : ByteArray) (a : Nat) (ha : a < s.size) (w : World) (hs : s.size ≤ 281474976710656) (h1 : 240 ≤ bt s a) (h2 : bt s a ≤ 244) (t1 : tl s (a + 1) 128 191 = true) (t2 : tl s (a + 2) 128 191 = true) (t3 : tl s (a + 3) 128 191 = false) :
    Calls Tryd.prog 59 #[.string s, .int .i64 a] w fun e w' => e = .returned (.int .i64 (0)) ∧ w = w' := by
  have hbt := get_bt s
  have hb0 := bt_nonneg s a
  have hb1 := bt_le s a
  go_enter Tryd.func59, Tryd.ntmps59
  go_wp2_with fail
  refine (tail_at s _ (a + 1) (by omega) 128 191 _).mono ?_
  rintro e w' ⟨rfl, rfl⟩
  rw [t1]
  go_wp2_with fail
  refine (tail_at s _ (a + 2) (by omega) 128 191 _).mono ?_
  rintro e w' ⟨rfl, rfl⟩
  rw [t2]
  go_wp2_with fail
  refine (tail_at s _ (a + 3) (by omega) 128 191 _).mono ?_
  rintro e w' ⟨rfl, rfl⟩
  rw [t3]
  go_wp2_with fail
  go_wp2
  all_goals go_ret
  all_goals exact ⟨rfl, rfl⟩

theorem char_4 (s : ByteArray) (a : Nat) (ha : a < s.size) (w : World) (hs : s.size ≤ 281474976710656) (h1 : 240 ≤ bt s a) (h2 : bt s a ≤ 244) (t1 : tl s (a + 1) 128 191 = true) (t2 : tl s (a + 2) 128 191 = true) (t3 : tl s (a + 3) 128 191 = true) (h3 : (bt s a == 240) = false) (h4 : (bt s a == 244) = false) :
    Calls Tryd.prog 59 #[.string s, .int .i64 a] w fun e w' => e = .returned (.int .i64 (4)) ∧ w = w' := by
  have hbt := get_bt s
  have hb0 := bt_nonneg s a
  have hb1 := bt_le s a
  go_enter Tryd.func59, Tryd.ntmps59
  go_wp2_with fail
  refine (tail_at s _ (a + 1) (by omega) 128 191 _).mono ?_
  rintro e w' ⟨rfl, rfl⟩
  rw [t1]
  go_wp2_with fail
  refine (tail_at s _ (a + 2) (by omega) 128 191 _).mono ?_
  rintro e w' ⟨rfl, rfl⟩
  rw [t2]
  go_wp2_with fail
  refine (tail_at s _ (a + 3) (by omega) 128 191 _).mono ?_
  rintro e w' ⟨rfl, rfl⟩
  rw [t3]
  go_wp2_with fail
  refine (tail_at s _ (a + 1) (by omega) 144 191 _).mono ?_
  rintro e w' ⟨rfl, rfl⟩
  go_wp2_with fail
  refine (tail_at s _ (a + 1) (by omega) 128 143 _).mono ?_
  rintro e w' ⟨rfl, rfl⟩
  go_wp2_with fail
  go_wp2
  all_goals go_ret
  all_goals exact ⟨rfl, rfl⟩

theorem char_4_240_true (s : ByteArray) (a : Nat) (ha : a < s.size) (w : World) (hs : s.size ≤ 281474976710656) (h1 : 240 ≤ bt s a) (h2 : bt s a ≤ 244) (t1 : tl s (a + 1) 128 191 = true) (t2 : tl s (a + 2) 128 191 = true) (t3 : tl s (a + 3) 128 191 = true) (h3 : bt s a = 240) (t4 : tl s (a + 1) 144 191 = true) :
    Calls Tryd.prog 59 #[.string s, .int .i64 a] w fun e w' => e = .returned (.int .i64 (4)) ∧ w = w' := by
  have hbt := get_bt s
  have hb0 := bt_nonneg s a
  have hb1 := bt_le s a
  go_enter Tryd.func59, Tryd.ntmps59
  go_wp2_with fail
  refine (tail_at s _ (a + 1) (by omega) 128 191 _).mono ?_
  rintro e w' ⟨rfl, rfl⟩
  rw [t1]
  go_wp2_with fail
  refine (tail_at s _ (a + 2) (by omega) 128 191 _).mono ?_
  rintro e w' ⟨rfl, rfl⟩
  rw [t2]
  go_wp2_with fail
  refine (tail_at s _ (a + 3) (by omega) 128 191 _).mono ?_
  rintro e w' ⟨rfl, rfl⟩
  rw [t3]
  go_wp2_with fail
  refine (tail_at s _ (a + 1) (by omega) 144 191 _).mono ?_
  rintro e w' ⟨rfl, rfl⟩
  rw [t4]
  go_wp2_with fail
  refine (tail_at s _ (a + 1) (by omega) 128 143 _).mono ?_
  rintro e w' ⟨rfl, rfl⟩
  go_wp2_with fail
  go_wp2
  all_goals go_ret
  all_goals exact ⟨rfl, rfl⟩

theorem char_4_240_false (s : ByteArray) (a : Nat) (ha : a < s.size) (w : World) (hs : s.size ≤ 281474976710656) (h1 : 240 ≤ bt s a) (h2 : bt s a ≤ 244) (t1 : tl s (a + 1) 128 191 = true) (t2 : tl s (a + 2) 128 191 = true) (t3 : tl s (a + 3) 128 191 = true) (h3 : bt s a = 240) (t4 : tl s (a + 1) 144 191 = false) :
    Calls Tryd.prog 59 #[.string s, .int .i64 a] w fun e w' => e = .returned (.int .i64 (0)) ∧ w = w' := by
  have hbt := get_bt s
  have hb0 := bt_nonneg s a
  have hb1 := bt_le s a
  go_enter Tryd.func59, Tryd.ntmps59
  go_wp2_with fail
  refine (tail_at s _ (a + 1) (by omega) 128 191 _).mono ?_
  rintro e w' ⟨rfl, rfl⟩
  rw [t1]
  go_wp2_with fail
  refine (tail_at s _ (a + 2) (by omega) 128 191 _).mono ?_
  rintro e w' ⟨rfl, rfl⟩
  rw [t2]
  go_wp2_with fail
  refine (tail_at s _ (a + 3) (by omega) 128 191 _).mono ?_
  rintro e w' ⟨rfl, rfl⟩
  rw [t3]
  go_wp2_with fail
  refine (tail_at s _ (a + 1) (by omega) 144 191 _).mono ?_
  rintro e w' ⟨rfl, rfl⟩
  rw [t4]
  go_wp2_with fail
  refine (tail_at s _ (a + 1) (by omega) 128 143 _).mono ?_
  rintro e w' ⟨rfl, rfl⟩
  go_wp2_with fail
  go_wp2
  all_goals go_ret
  all_goals exact ⟨rfl, rfl⟩

theorem char_4_244_true (s : ByteArray) (a : Nat) (ha : a < s.size) (w : World) (hs : s.size ≤ 281474976710656) (h1 : 240 ≤ bt s a) (h2 : bt s a ≤ 244) (t1 : tl s (a + 1) 128 191 = true) (t2 : tl s (a + 2) 128 191 = true) (t3 : tl s (a + 3) 128 191 = true) (h3 : bt s a = 244) (t4 : tl s (a + 1) 128 143 = true) :
    Calls Tryd.prog 59 #[.string s, .int .i64 a] w fun e w' => e = .returned (.int .i64 (4)) ∧ w = w' := by
  have hbt := get_bt s
  have hb0 := bt_nonneg s a
  have hb1 := bt_le s a
  go_enter Tryd.func59, Tryd.ntmps59
  go_wp2_with fail
  refine (tail_at s _ (a + 1) (by omega) 128 191 _).mono ?_
  rintro e w' ⟨rfl, rfl⟩
  rw [t1]
  go_wp2_with fail
  refine (tail_at s _ (a + 2) (by omega) 128 191 _).mono ?_
  rintro e w' ⟨rfl, rfl⟩
  rw [t2]
  go_wp2_with fail
  refine (tail_at s _ (a + 3) (by omega) 128 191 _).mono ?_
  rintro e w' ⟨rfl, rfl⟩
  rw [t3]
  go_wp2_with fail
  refine (tail_at s _ (a + 1) (by omega) 144 191 _).mono ?_
  rintro e w' ⟨rfl, rfl⟩
  go_wp2_with fail
  refine (tail_at s _ (a + 1) (by omega) 128 143 _).mono ?_
  rintro e w' ⟨rfl, rfl⟩
  rw [t4]
  go_wp2_with fail
  go_wp2
  all_goals go_ret
  all_goals exact ⟨rfl, rfl⟩

theorem char_4_244_false (s : ByteArray) (a : Nat) (ha : a < s.size) (w : World) (hs : s.size ≤ 281474976710656) (h1 : 240 ≤ bt s a) (h2 : bt s a ≤ 244) (t1 : tl s (a + 1) 128 191 = true) (t2 : tl s (a + 2) 128 191 = true) (t3 : tl s (a + 3) 128 191 = true) (h3 : bt s a = 244) (t4 : tl s (a + 1) 128 143 = false) :
    Calls Tryd.prog 59 #[.string s, .int .i64 a] w fun e w' => e = .returned (.int .i64 (0)) ∧ w = w' := by
  have hbt := get_bt s
  have hb0 := bt_nonneg s a
  have hb1 := bt_le s a
  go_enter Tryd.func59, Tryd.ntmps59
  go_wp2_with fail
  refine (tail_at s _ (a + 1) (by omega) 128 191 _).mono ?_
  rintro e w' ⟨rfl, rfl⟩
  rw [t1]
  go_wp2_with fail
  refine (tail_at s _ (a + 2) (by omega) 128 191 _).mono ?_
  rintro e w' ⟨rfl, rfl⟩
  rw [t2]
  go_wp2_with fail
  refine (tail_at s _ (a + 3) (by omega) 128 191 _).mono ?_
  rintro e w' ⟨rfl, rfl⟩
  rw [t3]
  go_wp2_with fail
  refine (tail_at s _ (a + 1) (by omega) 144 191 _).mono ?_
  rintro e w' ⟨rfl, rfl⟩
  go_wp2_with fail
  refine (tail_at s _ (a + 1) (by omega) 128 143 _).mono ?_
  rintro e w' ⟨rfl, rfl⟩
  rw [t4]
  go_wp2_with fail
  go_wp2
  all_goals go_ret
  all_goals exact ⟨rfl, rfl⟩
end Go.Proofs.YtifbkfkieppacaaDoor
