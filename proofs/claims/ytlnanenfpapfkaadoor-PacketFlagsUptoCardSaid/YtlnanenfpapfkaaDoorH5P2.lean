/- Parts of the proof, joined: Char, CharAny, RefFault, FixPlain, Fix, GetFix. -/
import Derived.Test.YtlnanenfpapfkaaDoorH5P1
import Derived.Test.YtlnanenfpapfkaaDoorRows
import Derived.WalkLawsBesides
import Derived.WalkSpells
import Derived.Handy
/- The walks of the document's Char, Fault, Runes and Cut. -/
namespace Go.Proofs.YtlnanenfpapfkaaDoor
open Go.RowKit Pl Go.Shelf
set_option linter.unusedVariables false
open Go.PlainAid (bt bt_nonneg bt_le get_bt bt_end)

theorem tail_at (s : ByteArray) (x : Int) (k : Nat) (hx : x = k) (lo hi : Int) (w : World) :
    Calls Tryd.prog 115 #[.string s, .int .i64 x, .int .i64 lo, .int .i64 hi] w fun e w' => e = .returned (.bool (tl s k lo hi)) ∧ w = w' := by
  subst hx
  exact tail_any s k lo hi w

theorem char_1 (s : ByteArray) (a : Nat) (ha : a < s.size) (w : World) (hs : s.size ≤ 281474976710656) (h1 : 1 ≤ bt s a) (h2 : bt s a ≤ 127) :
    Calls Tryd.prog 109 #[.string s, .int .i64 a] w fun e w' => e = .returned (.int .i64 (1)) ∧ w = w' := by
  have hbt := get_bt s
  have hb0 := bt_nonneg s a
  have hb1 := bt_le s a
  go_enter Tryd.func109, Tryd.ntmps109
  go_wp2_with fail
  go_wp2
  all_goals go_ret
  all_goals exact ⟨rfl, rfl⟩

theorem char_0a (s : ByteArray) (a : Nat) (ha : a < s.size) (w : World) (hs : s.size ≤ 281474976710656) (h1 : bt s a = 0) :
    Calls Tryd.prog 109 #[.string s, .int .i64 a] w fun e w' => e = .returned (.int .i64 (0)) ∧ w = w' := by
  have hbt := get_bt s
  have hb0 := bt_nonneg s a
  have hb1 := bt_le s a
  go_enter Tryd.func109, Tryd.ntmps109
  go_wp2_with fail
  refine (tail_at s _ (a + 1) (by omega) 128 191 _).mono ?_
  rintro e w' ⟨rfl, rfl⟩
  go_wp2_with fail
  refine (tail_at s _ (a + 2) (by omega) 128 191 _).mono ?_
  rintro e w' ⟨rfl, rfl⟩
  go_wp2_with fail
  refine (tail_at s _ (a + 3) (by omega) 128 191 _).mono ?_
  rintro e w' ⟨rfl, rfl⟩
  go_wp2_with fail
  go_wp2
  all_goals go_ret
  all_goals exact ⟨rfl, rfl⟩

theorem char_0b (s : ByteArray) (a : Nat) (ha : a < s.size) (w : World) (hs : s.size ≤ 281474976710656) (h1 : 128 ≤ bt s a) (h2 : bt s a ≤ 193) :
    Calls Tryd.prog 109 #[.string s, .int .i64 a] w fun e w' => e = .returned (.int .i64 (0)) ∧ w = w' := by
  have hbt := get_bt s
  have hb0 := bt_nonneg s a
  have hb1 := bt_le s a
  go_enter Tryd.func109, Tryd.ntmps109
  go_wp2_with fail
  refine (tail_at s _ (a + 1) (by omega) 128 191 _).mono ?_
  rintro e w' ⟨rfl, rfl⟩
  go_wp2_with fail
  refine (tail_at s _ (a + 2) (by omega) 128 191 _).mono ?_
  rintro e w' ⟨rfl, rfl⟩
  go_wp2_with fail
  refine (tail_at s _ (a + 3) (by omega) 128 191 _).mono ?_
  rintro e w' ⟨rfl, rfl⟩
  go_wp2_with fail
  go_wp2
  all_goals go_ret
  all_goals exact ⟨rfl, rfl⟩

theorem char_0c (s : ByteArray) (a : Nat) (ha : a < s.size) (w : World) (hs : s.size ≤ 281474976710656) (h1 : 245 ≤ bt s a) :
    Calls Tryd.prog 109 #[.string s, .int .i64 a] w fun e w' => e = .returned (.int .i64 (0)) ∧ w = w' := by
  have hbt := get_bt s
  have hb0 := bt_nonneg s a
  have hb1 := bt_le s a
  go_enter Tryd.func109, Tryd.ntmps109
  go_wp2_with fail
  refine (tail_at s _ (a + 1) (by omega) 128 191 _).mono ?_
  rintro e w' ⟨rfl, rfl⟩
  go_wp2_with fail
  refine (tail_at s _ (a + 2) (by omega) 128 191 _).mono ?_
  rintro e w' ⟨rfl, rfl⟩
  go_wp2_with fail
  refine (tail_at s _ (a + 3) (by omega) 128 191 _).mono ?_
  rintro e w' ⟨rfl, rfl⟩
  go_wp2_with fail
  go_wp2
  all_goals go_ret
  all_goals exact ⟨rfl, rfl⟩

theorem char_2 (s : ByteArray) (a : Nat) (ha : a < s.size) (w : World) (hs : s.size ≤ 281474976710656) (h1 : 194 ≤ bt s a) (h2 : bt s a ≤ 223) (t1 : tl s (a + 1) 128 191 = true) :
    Calls Tryd.prog 109 #[.string s, .int .i64 a] w fun e w' => e = .returned (.int .i64 (2)) ∧ w = w' := by
  have hbt := get_bt s
  have hb0 := bt_nonneg s a
  have hb1 := bt_le s a
  go_enter Tryd.func109, Tryd.ntmps109
  go_wp2_with fail
  refine (tail_at s _ (a + 1) (by omega) 128 191 _).mono ?_
  rintro e w' ⟨rfl, rfl⟩
  rw [t1]
  go_wp2_with fail
  refine (tail_at s _ (a + 2) (by omega) 128 191 _).mono ?_
  rintro e w' ⟨rfl, rfl⟩
  go_wp2_with fail
  refine (tail_at s _ (a + 3) (by omega) 128 191 _).mono ?_
  rintro e w' ⟨rfl, rfl⟩
  go_wp2_with fail
  go_wp2
  all_goals go_ret
  all_goals exact ⟨rfl, rfl⟩

theorem char_2n (s : ByteArray) (a : Nat) (ha : a < s.size) (w : World) (hs : s.size ≤ 281474976710656) (h1 : 194 ≤ bt s a) (h2 : bt s a ≤ 223) (t1 : tl s (a + 1) 128 191 = false) :
    Calls Tryd.prog 109 #[.string s, .int .i64 a] w fun e w' => e = .returned (.int .i64 (0)) ∧ w = w' := by
  have hbt := get_bt s
  have hb0 := bt_nonneg s a
  have hb1 := bt_le s a
  go_enter Tryd.func109, Tryd.ntmps109
  go_wp2_with fail
  refine (tail_at s _ (a + 1) (by omega) 128 191 _).mono ?_
  rintro e w' ⟨rfl, rfl⟩
  rw [t1]
  go_wp2_with fail
  refine (tail_at s _ (a + 2) (by omega) 128 191 _).mono ?_
  rintro e w' ⟨rfl, rfl⟩
  go_wp2_with fail
  refine (tail_at s _ (a + 3) (by omega) 128 191 _).mono ?_
  rintro e w' ⟨rfl, rfl⟩
  go_wp2_with fail
  go_wp2
  all_goals go_ret
  all_goals exact ⟨rfl, rfl⟩

theorem char_3n1 (s : ByteArray) (a : Nat) (ha : a < s.size) (w : World) (hs : s.size ≤ 281474976710656) (h1 : 224 ≤ bt s a) (h2 : bt s a ≤ 239) (t1 : tl s (a + 1) 128 191 = false) :
    Calls Tryd.prog 109 #[.string s, .int .i64 a] w fun e w' => e = .returned (.int .i64 (0)) ∧ w = w' := by
  have hbt := get_bt s
  have hb0 := bt_nonneg s a
  have hb1 := bt_le s a
  go_enter Tryd.func109, Tryd.ntmps109
  go_wp2_with fail
  refine (tail_at s _ (a + 1) (by omega) 128 191 _).mono ?_
  rintro e w' ⟨rfl, rfl⟩
  rw [t1]
  go_wp2_with fail
  refine (tail_at s _ (a + 2) (by omega) 128 191 _).mono ?_
  rintro e w' ⟨rfl, rfl⟩
  go_wp2_with fail
  refine (tail_at s _ (a + 3) (by omega) 128 191 _).mono ?_
  rintro e w' ⟨rfl, rfl⟩
  go_wp2_with fail
  go_wp2
  all_goals go_ret
  all_goals exact ⟨rfl, rfl⟩

theorem char_3n2 (s : ByteArray) (a : Nat) (ha : a < s.size) (w : World) (hs : s.size ≤ 281474976710656) (h1 : 224 ≤ bt s a) (h2 : bt s a ≤ 239) (t1 : tl s (a + 1) 128 191 = true) (t2 : tl s (a + 2) 128 191 = false) :
    Calls Tryd.prog 109 #[.string s, .int .i64 a] w fun e w' => e = .returned (.int .i64 (0)) ∧ w = w' := by
  have hbt := get_bt s
  have hb0 := bt_nonneg s a
  have hb1 := bt_le s a
  go_enter Tryd.func109, Tryd.ntmps109
  go_wp2_with fail
  refine (tail_at s _ (a + 1) (by omega) 128 191 _).mono ?_
  rintro e w' ⟨rfl, rfl⟩
  rw [t1]
  go_wp2_with fail
  refine (tail_at s _ (a + 2) (by omega) 128 191 _).mono ?_
  rintro e w' ⟨rfl, rfl⟩
  rw [t2]
  go_wp2_with fail
  refine (tail_at s _ (a + 3) (by omega) 128 191 _).mono ?_
  rintro e w' ⟨rfl, rfl⟩
  go_wp2_with fail
  go_wp2
  all_goals go_ret
  all_goals exact ⟨rfl, rfl⟩

theorem char_3 (s : ByteArray) (a : Nat) (ha : a < s.size) (w : World) (hs : s.size ≤ 281474976710656) (h1 : 224 ≤ bt s a) (h2 : bt s a ≤ 239) (t1 : tl s (a + 1) 128 191 = true) (t2 : tl s (a + 2) 128 191 = true) (h3 : (bt s a == 224) = false) (h4 : (bt s a == 237) = false) :
    Calls Tryd.prog 109 #[.string s, .int .i64 a] w fun e w' => e = .returned (.int .i64 (3)) ∧ w = w' := by
  have hbt := get_bt s
  have hb0 := bt_nonneg s a
  have hb1 := bt_le s a
  go_enter Tryd.func109, Tryd.ntmps109
  go_wp2_with fail
  refine (tail_at s _ (a + 1) (by omega) 128 191 _).mono ?_
  rintro e w' ⟨rfl, rfl⟩
  rw [t1]
  go_wp2_with fail
  refine (tail_at s _ (a + 2) (by omega) 128 191 _).mono ?_
  rintro e w' ⟨rfl, rfl⟩
  rw [t2]
  go_wp2_with fail
  refine (tail_at s _ (a + 3) (by omega) 128 191 _).mono ?_
  rintro e w' ⟨rfl, rfl⟩
  go_wp2_with fail
  refine (tail_at s _ (a + 1) (by omega) 160 191 _).mono ?_
  rintro e w' ⟨rfl, rfl⟩
  go_wp2_with fail
  refine (tail_at s _ (a + 1) (by omega) 128 159 _).mono ?_
  rintro e w' ⟨rfl, rfl⟩
  go_wp2_with fail
  go_wp2
  all_goals go_ret
  all_goals exact ⟨rfl, rfl⟩

theorem char_3_224_true (s : ByteArray) (a : Nat) (ha : a < s.size) (w : World) (hs : s.size ≤ 281474976710656) (h1 : 224 ≤ bt s a) (h2 : bt s a ≤ 239) (t1 : tl s (a + 1) 128 191 = true) (t2 : tl s (a + 2) 128 191 = true) (h3 : bt s a = 224) (t4 : tl s (a + 1) 160 191 = true) :
    Calls Tryd.prog 109 #[.string s, .int .i64 a] w fun e w' => e = .returned (.int .i64 (3)) ∧ w = w' := by
  have hbt := get_bt s
  have hb0 := bt_nonneg s a
  have hb1 := bt_le s a
  go_enter Tryd.func109, Tryd.ntmps109
  go_wp2_with fail
  refine (tail_at s _ (a + 1) (by omega) 128 191 _).mono ?_
  rintro e w' ⟨rfl, rfl⟩
  rw [t1]
  go_wp2_with fail
  refine (tail_at s _ (a + 2) (by omega) 128 191 _).mono ?_
  rintro e w' ⟨rfl, rfl⟩
  rw [t2]
  go_wp2_with fail
  refine (tail_at s _ (a + 3) (by omega) 128 191 _).mono ?_
  rintro e w' ⟨rfl, rfl⟩
  go_wp2_with fail
  refine (tail_at s _ (a + 1) (by omega) 160 191 _).mono ?_
  rintro e w' ⟨rfl, rfl⟩
  rw [t4]
  go_wp2_with fail
  refine (tail_at s _ (a + 1) (by omega) 128 159 _).mono ?_
  rintro e w' ⟨rfl, rfl⟩
  go_wp2_with fail
  go_wp2
  all_goals go_ret
  all_goals exact ⟨rfl, rfl⟩

theorem char_3_224_false (s : ByteArray) (a : Nat) (ha : a < s.size) (w : World) (hs : s.size ≤ 281474976710656) (h1 : 224 ≤ bt s a) (h2 : bt s a ≤ 239) (t1 : tl s (a + 1) 128 191 = true) (t2 : tl s (a + 2) 128 191 = true) (h3 : bt s a = 224) (t4 : tl s (a + 1) 160 191 = false) :
    Calls Tryd.prog 109 #[.string s, .int .i64 a] w fun e w' => e = .returned (.int .i64 (0)) ∧ w = w' := by
  have hbt := get_bt s
  have hb0 := bt_nonneg s a
  have hb1 := bt_le s a
  go_enter Tryd.func109, Tryd.ntmps109
  go_wp2_with fail
  refine (tail_at s _ (a + 1) (by omega) 128 191 _).mono ?_
  rintro e w' ⟨rfl, rfl⟩
  rw [t1]
  go_wp2_with fail
  refine (tail_at s _ (a + 2) (by omega) 128 191 _).mono ?_
  rintro e w' ⟨rfl, rfl⟩
  rw [t2]
  go_wp2_with fail
  refine (tail_at s _ (a + 3) (by omega) 128 191 _).mono ?_
  rintro e w' ⟨rfl, rfl⟩
  go_wp2_with fail
  refine (tail_at s _ (a + 1) (by omega) 160 191 _).mono ?_
  rintro e w' ⟨rfl, rfl⟩
  rw [t4]
  go_wp2_with fail
  refine (tail_at s _ (a + 1) (by omega) 128 159 _).mono ?_
  rintro e w' ⟨rfl, rfl⟩
  go_wp2_with fail
  go_wp2
  all_goals go_ret
  all_goals exact ⟨rfl, rfl⟩

theorem char_3_237_true (s : ByteArray) (a : Nat) (ha : a < s.size) (w : World) (hs : s.size ≤ 281474976710656) (h1 : 224 ≤ bt s a) (h2 : bt s a ≤ 239) (t1 : tl s (a + 1) 128 191 = true) (t2 : tl s (a + 2) 128 191 = true) (h3 : bt s a = 237) (t4 : tl s (a + 1) 128 159 = true) :
    Calls Tryd.prog 109 #[.string s, .int .i64 a] w fun e w' => e = .returned (.int .i64 (3)) ∧ w = w' := by
  have hbt := get_bt s
  have hb0 := bt_nonneg s a
  have hb1 := bt_le s a
  go_enter Tryd.func109, Tryd.ntmps109
  go_wp2_with fail
  refine (tail_at s _ (a + 1) (by omega) 128 191 _).mono ?_
  rintro e w' ⟨rfl, rfl⟩
  rw [t1]
  go_wp2_with fail
  refine (tail_at s _ (a + 2) (by omega) 128 191 _).mono ?_
  rintro e w' ⟨rfl, rfl⟩
  rw [t2]
  go_wp2_with fail
  refine (tail_at s _ (a + 3) (by omega) 128 191 _).mono ?_
  rintro e w' ⟨rfl, rfl⟩
  go_wp2_with fail
  refine (tail_at s _ (a + 1) (by omega) 160 191 _).mono ?_
  rintro e w' ⟨rfl, rfl⟩
  go_wp2_with fail
  refine (tail_at s _ (a + 1) (by omega) 128 159 _).mono ?_
  rintro e w' ⟨rfl, rfl⟩
  rw [t4]
  go_wp2_with fail
  go_wp2
  all_goals go_ret
  all_goals exact ⟨rfl, rfl⟩

theorem char_3_237_false (s : ByteArray) (a : Nat) (ha : a < s.size) (w : World) (hs : s.size ≤ 281474976710656) (h1 : 224 ≤ bt s a) (h2 : bt s a ≤ 239) (t1 : tl s (a + 1) 128 191 = true) (t2 : tl s (a + 2) 128 191 = true) (h3 : bt s a = 237) (t4 : tl s (a + 1) 128 159 = false) :
    Calls Tryd.prog 109 #[.string s, .int .i64 a] w fun e w' => e = .returned (.int .i64 (0)) ∧ w = w' := by
  have hbt := get_bt s
  have hb0 := bt_nonneg s a
  have hb1 := bt_le s a
  go_enter Tryd.func109, Tryd.ntmps109
  go_wp2_with fail
  refine (tail_at s _ (a + 1) (by omega) 128 191 _).mono ?_
  rintro e w' ⟨rfl, rfl⟩
  rw [t1]
  go_wp2_with fail
  refine (tail_at s _ (a + 2) (by omega) 128 191 _).mono ?_
  rintro e w' ⟨rfl, rfl⟩
  rw [t2]
  go_wp2_with fail
  refine (tail_at s _ (a + 3) (by omega) 128 191 _).mono ?_
  rintro e w' ⟨rfl, rfl⟩
  go_wp2_with fail
  refine (tail_at s _ (a + 1) (by omega) 160 191 _).mono ?_
  rintro e w' ⟨rfl, rfl⟩
  go_wp2_with fail
  refine (tail_at s _ (a + 1) (by omega) 128 159 _).mono ?_
  rintro e w' ⟨rfl, rfl⟩
  rw [t4]
  go_wp2_with fail
  go_wp2
  all_goals go_ret
  all_goals exact ⟨rfl, rfl⟩

theorem char_4n1 (s : ByteArray) (a : Nat) (ha : a < s.size) (w : World) (hs : s.size ≤ 281474976710656) (h1 : 240 ≤ bt s a) (h2 : bt s a ≤ 244) (t1 : tl s (a + 1) 128 191 = false) :
    Calls Tryd.prog 109 #[.string s, .int .i64 a] w fun e w' => e = .returned (.int .i64 (0)) ∧ w = w' := by
  have hbt := get_bt s
  have hb0 := bt_nonneg s a
  have hb1 := bt_le s a
  go_enter Tryd.func109, Tryd.ntmps109
  go_wp2_with fail
  refine (tail_at s _ (a + 1) (by omega) 128 191 _).mono ?_
  rintro e w' ⟨rfl, rfl⟩
  rw [t1]
  go_wp2_with fail
  refine (tail_at s _ (a + 2) (by omega) 128 191 _).mono ?_
  rintro e w' ⟨rfl, rfl⟩
  go_wp2_with fail
  refine (tail_at s _ (a + 3) (by omega) 128 191 _).mono ?_
  rintro e w' ⟨rfl, rfl⟩
  go_wp2_with fail
  go_wp2
  all_goals go_ret
  all_goals exact ⟨rfl, rfl⟩

theorem char_4n2 (s : ByteArray) (a : Nat) (ha : a < s.size) (w : World) (hs : s.size ≤ 281474976710656) (h1 : 240 ≤ bt s a) (h2 : bt s a ≤ 244) (t1 : tl s (a + 1) 128 191 = true) (t2 : tl s (a + 2) 128 191 = false) :
    Calls Tryd.prog 109 #[.string s, .int .i64 a] w fun e w' => e = .returned (.int .i64 (0)) ∧ w = w' := by
  have hbt := get_bt s
  have hb0 := bt_nonneg s a
  have hb1 := bt_le s a
  go_enter Tryd.func109, Tryd.ntmps109
  go_wp2_with fail
  refine (tail_at s _ (a + 1) (by omega) 128 191 _).mono ?_
  rintro e w' ⟨rfl, rfl⟩
  rw [t1]
  go_wp2_with fail
  refine (tail_at s _ (a + 2) (by omega) 128 191 _).mono ?_
  rintro e w' ⟨rfl, rfl⟩
  rw [t2]
  go_wp2_with fail
  refine (tail_at s _ (a + 3) (by omega) 128 191 _).mono ?_
  rintro e w' ⟨rfl, rfl⟩
  go_wp2_with fail
  go_wp2
  all_goals go_ret
  all_goals exact ⟨rfl, rfl⟩

theorem char_4n3 (s : ByteArray) (a : Nat) (ha : a < s.size) (w : World) (hs : s.size ≤ 281474976710656) (h1 : 240 ≤ bt s a) (h2 : bt s a ≤ 244) (t1 : tl s (a + 1) 128 191 = true) (t2 : tl s (a + 2) 128 191 = true) (t3 : tl s (a + 3) 128 191 = false) :
    Calls Tryd.prog 109 #[.string s, .int .i64 a] w fun e w' => e = .returned (.int .i64 (0)) ∧ w = w' := by
  have hbt := get_bt s
  have hb0 := bt_nonneg s a
  have hb1 := bt_le s a
  go_enter Tryd.func109, Tryd.ntmps109
  go_wp2_with fail
  refine (tail_at s _ (a + 1) (by omega) 128 191 _).mono ?_
  rintro e w' ⟨rfl, rfl⟩
  rw [t1]
  go_wp2_with fail
  refine (tail_at s _ (a + 2) (by omega) 128 191 _).mono ?_
  rintro e w' ⟨rfl, rfl⟩
  rw [t2]
  go_wp2_with fail
  refine (tail_at s _ (a + 3) (by omega) 128 191 _).mono ?_
  rintro e w' ⟨rfl, rfl⟩
  rw [t3]
  go_wp2_with fail
  go_wp2
  all_goals go_ret
  all_goals exact ⟨rfl, rfl⟩

theorem char_4 (s : ByteArray) (a : Nat) (ha : a < s.size) (w : World) (hs : s.size ≤ 281474976710656) (h1 : 240 ≤ bt s a) (h2 : bt s a ≤ 244) (t1 : tl s (a + 1) 128 191 = true) (t2 : tl s (a + 2) 128 191 = true) (t3 : tl s (a + 3) 128 191 = true) (h3 : (bt s a == 240) = false) (h4 : (bt s a == 244) = false) :
    Calls Tryd.prog 109 #[.string s, .int .i64 a] w fun e w' => e = .returned (.int .i64 (4)) ∧ w = w' := by
  have hbt := get_bt s
  have hb0 := bt_nonneg s a
  have hb1 := bt_le s a
  go_enter Tryd.func109, Tryd.ntmps109
  go_wp2_with fail
  refine (tail_at s _ (a + 1) (by omega) 128 191 _).mono ?_
  rintro e w' ⟨rfl, rfl⟩
  rw [t1]
  go_wp2_with fail
  refine (tail_at s _ (a + 2) (by omega) 128 191 _).mono ?_
  rintro e w' ⟨rfl, rfl⟩
  rw [t2]
  go_wp2_with fail
  refine (tail_at s _ (a + 3) (by omega) 128 191 _).mono ?_
  rintro e w' ⟨rfl, rfl⟩
  rw [t3]
  go_wp2_with fail
  refine (tail_at s _ (a + 1) (by omega) 144 191 _).mono ?_
  rintro e w' ⟨rfl, rfl⟩
  go_wp2_with fail
  refine (tail_at s _ (a + 1) (by omega) 128 143 _).mono ?_
  rintro e w' ⟨rfl, rfl⟩
  go_wp2_with fail
  go_wp2
  all_goals go_ret
  all_goals exact ⟨rfl, rfl⟩

theorem char_4_240_true (s : ByteArray) (a : Nat) (ha : a < s.size) (w : World) (hs : s.size ≤ 281474976710656) (h1 : 240 ≤ bt s a) (h2 : bt s a ≤ 244) (t1 : tl s (a + 1) 128 191 = true) (t2 : tl s (a + 2) 128 191 = true) (t3 : tl s (a + 3) 128 191 = true) (h3 : bt s a = 240) (t4 : tl s (a + 1) 144 191 = true) :
    Calls Tryd.prog 109 #[.string s, .int .i64 a] w fun e w' => e = .returned (.int .i64 (4)) ∧ w = w' := by
  have hbt := get_bt s
  have hb0 := bt_nonneg s a
  have hb1 := bt_le s a
  go_enter Tryd.func109, Tryd.ntmps109
  go_wp2_with fail
  refine (tail_at s _ (a + 1) (by omega) 128 191 _).mono ?_
  rintro e w' ⟨rfl, rfl⟩
  rw [t1]
  go_wp2_with fail
  refine (tail_at s _ (a + 2) (by omega) 128 191 _).mono ?_
  rintro e w' ⟨rfl, rfl⟩
  rw [t2]
  go_wp2_with fail
  refine (tail_at s _ (a + 3) (by omega) 128 191 _).mono ?_
  rintro e w' ⟨rfl, rfl⟩
  rw [t3]
  go_wp2_with fail
  refine (tail_at s _ (a + 1) (by omega) 144 191 _).mono ?_
  rintro e w' ⟨rfl, rfl⟩
  rw [t4]
  go_wp2_with fail
  refine (tail_at s _ (a + 1) (by omega) 128 143 _).mono ?_
  rintro e w' ⟨rfl, rfl⟩
  go_wp2_with fail
  go_wp2
  all_goals go_ret
  all_goals exact ⟨rfl, rfl⟩

theorem char_4_240_false (s : ByteArray) (a : Nat) (ha : a < s.size) (w : World) (hs : s.size ≤ 281474976710656) (h1 : 240 ≤ bt s a) (h2 : bt s a ≤ 244) (t1 : tl s (a + 1) 128 191 = true) (t2 : tl s (a + 2) 128 191 = true) (t3 : tl s (a + 3) 128 191 = true) (h3 : bt s a = 240) (t4 : tl s (a + 1) 144 191 = false) :
    Calls Tryd.prog 109 #[.string s, .int .i64 a] w fun e w' => e = .returned (.int .i64 (0)) ∧ w = w' := by
  have hbt := get_bt s
  have hb0 := bt_nonneg s a
  have hb1 := bt_le s a
  go_enter Tryd.func109, Tryd.ntmps109
  go_wp2_with fail
  refine (tail_at s _ (a + 1) (by omega) 128 191 _).mono ?_
  rintro e w' ⟨rfl, rfl⟩
  rw [t1]
  go_wp2_with fail
  refine (tail_at s _ (a + 2) (by omega) 128 191 _).mono ?_
  rintro e w' ⟨rfl, rfl⟩
  rw [t2]
  go_wp2_with fail
  refine (tail_at s _ (a + 3) (by omega) 128 191 _).mono ?_
  rintro e w' ⟨rfl, rfl⟩
  rw [t3]
  go_wp2_with fail
  refine (tail_at s _ (a + 1) (by omega) 144 191 _).mono ?_
  rintro e w' ⟨rfl, rfl⟩
  rw [t4]
  go_wp2_with fail
  refine (tail_at s _ (a + 1) (by omega) 128 143 _).mono ?_
  rintro e w' ⟨rfl, rfl⟩
  go_wp2_with fail
  go_wp2
  all_goals go_ret
  all_goals exact ⟨rfl, rfl⟩

theorem char_4_244_true (s : ByteArray) (a : Nat) (ha : a < s.size) (w : World) (hs : s.size ≤ 281474976710656) (h1 : 240 ≤ bt s a) (h2 : bt s a ≤ 244) (t1 : tl s (a + 1) 128 191 = true) (t2 : tl s (a + 2) 128 191 = true) (t3 : tl s (a + 3) 128 191 = true) (h3 : bt s a = 244) (t4 : tl s (a + 1) 128 143 = true) :
    Calls Tryd.prog 109 #[.string s, .int .i64 a] w fun e w' => e = .returned (.int .i64 (4)) ∧ w = w' := by
  have hbt := get_bt s
  have hb0 := bt_nonneg s a
  have hb1 := bt_le s a
  go_enter Tryd.func109, Tryd.ntmps109
  go_wp2_with fail
  refine (tail_at s _ (a + 1) (by omega) 128 191 _).mono ?_
  rintro e w' ⟨rfl, rfl⟩
  rw [t1]
  go_wp2_with fail
  refine (tail_at s _ (a + 2) (by omega) 128 191 _).mono ?_
  rintro e w' ⟨rfl, rfl⟩
  rw [t2]
  go_wp2_with fail
  refine (tail_at s _ (a + 3) (by omega) 128 191 _).mono ?_
  rintro e w' ⟨rfl, rfl⟩
  rw [t3]
  go_wp2_with fail
  refine (tail_at s _ (a + 1) (by omega) 144 191 _).mono ?_
  rintro e w' ⟨rfl, rfl⟩
  go_wp2_with fail
  refine (tail_at s _ (a + 1) (by omega) 128 143 _).mono ?_
  rintro e w' ⟨rfl, rfl⟩
  rw [t4]
  go_wp2_with fail
  go_wp2
  all_goals go_ret
  all_goals exact ⟨rfl, rfl⟩

theorem char_4_244_false (s : ByteArray) (a : Nat) (ha : a < s.size) (w : World) (hs : s.size ≤ 281474976710656) (h1 : 240 ≤ bt s a) (h2 : bt s a ≤ 244) (t1 : tl s (a + 1) 128 191 = true) (t2 : tl s (a + 2) 128 191 = true) (t3 : tl s (a + 3) 128 191 = true) (h3 : bt s a = 244) (t4 : tl s (a + 1) 128 143 = false) :
    Calls Tryd.prog 109 #[.string s, .int .i64 a] w fun e w' => e = .returned (.int .i64 (0)) ∧ w = w' := by
  have hbt := get_bt s
  have hb0 := bt_nonneg s a
  have hb1 := bt_le s a
  go_enter Tryd.func109, Tryd.ntmps109
  go_wp2_with fail
  refine (tail_at s _ (a + 1) (by omega) 128 191 _).mono ?_
  rintro e w' ⟨rfl, rfl⟩
  rw [t1]
  go_wp2_with fail
  refine (tail_at s _ (a + 2) (by omega) 128 191 _).mono ?_
  rintro e w' ⟨rfl, rfl⟩
  rw [t2]
  go_wp2_with fail
  refine (tail_at s _ (a + 3) (by omega) 128 191 _).mono ?_
  rintro e w' ⟨rfl, rfl⟩
  rw [t3]
  go_wp2_with fail
  refine (tail_at s _ (a + 1) (by omega) 144 191 _).mono ?_
  rintro e w' ⟨rfl, rfl⟩
  go_wp2_with fail
  refine (tail_at s _ (a + 1) (by omega) 128 143 _).mono ?_
  rintro e w' ⟨rfl, rfl⟩
  rw [t4]
  go_wp2_with fail
  go_wp2
  all_goals go_ret
  all_goals exact ⟨rfl, rfl⟩
end Go.Proofs.YtlnanenfpapfkaaDoor

/- The contract of the document's Char: nx. -/
namespace Go.Proofs.YtlnanenfpapfkaaDoor
open Go.RowKit Pl Go.Shelf
open Go.PlainAid (bt bt_nonneg bt_le get_bt bt_end)

theorem nx_rest {s : ByteArray} {a : Nat} (h : ¬ (1 ≤ bt s a ∧ bt s a ≤ 127)) : nx s a =
    if 194 ≤ bt s a ∧ bt s a ≤ 223 ∧ tl s (a + 1) 128 191 = true then 2
    else if 224 ≤ bt s a ∧ bt s a ≤ 239 ∧ tl s (a + 1) 128 191 = true ∧ tl s (a + 2) 128 191 = true then
      (if (bt s a = 224 ∧ tl s (a + 1) 160 191 = false) ∨ (bt s a = 237 ∧ tl s (a + 1) 128 159 = false) then 0 else 3)
    else if 240 ≤ bt s a ∧ bt s a ≤ 244 ∧ tl s (a + 1) 128 191 = true ∧ tl s (a + 2) 128 191 = true ∧ tl s (a + 3) 128 191 = true then
      (if (bt s a = 240 ∧ tl s (a + 1) 144 191 = false) ∨ (bt s a = 244 ∧ tl s (a + 1) 128 143 = false) then 0 else 4)
    else 0 := by unfold nx; rw [if_neg h]

theorem char_any (s : ByteArray) (a : Nat) (ha : a < s.size) (w : World) (hs : s.size ≤ 281474976710656) :
    Calls Tryd.prog 109 #[.string s, .int .i64 a] w fun e w' => e = .returned (.int .i64 (nx s a)) ∧ w = w' := by
  have hb0 := bt_nonneg s a
  have hb1 := bt_le s a
  have key : ∀ n : Nat, nx s a = n → (Calls Tryd.prog 109 #[.string s, .int .i64 a] w fun e w' => e = .returned (.int .i64 (n : Int)) ∧ w = w') → Calls Tryd.prog 109 #[.string s, .int .i64 a] w fun e w' => e = .returned (.int .i64 (nx s a)) ∧ w = w' := by
    intro n h hc
    rw [h]
    exact hc
  by_cases c1 : 1 ≤ bt s a ∧ bt s a ≤ 127
  · exact key 1 (by unfold nx; rw [if_pos c1]) (char_1 s a ha w hs c1.1 c1.2)
  · have u1 := nx_rest c1
    by_cases c0 : bt s a = 0
    · exact key 0 (by rw [u1, if_neg (by omega), if_neg (by omega), if_neg (by omega)]) (char_0a s a ha w hs c0)
    · by_cases cb : bt s a ≤ 193
      · exact key 0 (by rw [u1, if_neg (by omega), if_neg (by omega), if_neg (by omega)]) (char_0b s a ha w hs (by omega) cb)
      · by_cases cc : 245 ≤ bt s a
        · exact key 0 (by rw [u1, if_neg (by omega), if_neg (by omega), if_neg (by omega)]) (char_0c s a ha w hs cc)
        · by_cases c2 : bt s a ≤ 223
          · cases t1 : tl s (a + 1) 128 191
            · exact key 0 (by rw [u1, if_neg (by rw [t1]; simp), if_neg (by omega), if_neg (by omega)]) (char_2n s a ha w hs (by omega) c2 t1)
            · exact key 2 (by rw [u1, if_pos ⟨by omega, c2, t1⟩]) (char_2 s a ha w hs (by omega) c2 t1)
          · have u2 := u1
            rw [if_neg (show ¬ (194 ≤ bt s a ∧ bt s a ≤ 223 ∧ tl s (a + 1) 128 191 = true) by omega)] at u2
            by_cases c3 : bt s a ≤ 239
            · rw [if_neg (show ¬ (240 ≤ bt s a ∧ bt s a ≤ 244 ∧ tl s (a + 1) 128 191 = true ∧ tl s (a + 2) 128 191 = true ∧ tl s (a + 3) 128 191 = true) by omega)] at u2
              cases t1 : tl s (a + 1) 128 191
              · exact key 0 (by rw [u2, if_neg (by rw [t1]; simp)]) (char_3n1 s a ha w hs (by omega) c3 t1)
              · cases t2 : tl s (a + 2) 128 191
                · exact key 0 (by rw [u2, if_neg (by rw [t2]; simp)]) (char_3n2 s a ha w hs (by omega) c3 t1 t2)
                · rw [if_pos ⟨by omega, c3, t1, t2⟩] at u2
                  by_cases e1 : bt s a = 224
                  · cases t4 : tl s (a + 1) 160 191
                    · exact key 0 (by rw [u2, if_pos (.inl ⟨e1, t4⟩)]) (char_3_224_false s a ha w hs (by omega) c3 t1 t2 e1 t4)
                    · exact key 3 (by rw [u2, if_neg (by rw [t4]; rintro (⟨_, h⟩ | ⟨h, _⟩); exact absurd h (by simp); omega)]) (char_3_224_true s a ha w hs (by omega) c3 t1 t2 e1 t4)
                  · by_cases e2 : bt s a = 237
                    · cases t4 : tl s (a + 1) 128 159
                      · exact key 0 (by rw [u2, if_pos (.inr ⟨e2, t4⟩)]) (char_3_237_false s a ha w hs (by omega) c3 t1 t2 e2 t4)
                      · exact key 3 (by rw [u2, if_neg (by rw [t4]; rintro (⟨h, _⟩ | ⟨_, h⟩); omega; exact absurd h (by simp))]) (char_3_237_true s a ha w hs (by omega) c3 t1 t2 e2 t4)
                    · exact key 3 (by rw [u2, if_neg (by rintro (⟨h, _⟩ | ⟨h, _⟩); exact e1 h; exact e2 h)]) (char_3 s a ha w hs (by omega) c3 t1 t2 (beq_eq_false_iff_ne.2 e1) (beq_eq_false_iff_ne.2 e2))
            · rw [if_neg (show ¬ (224 ≤ bt s a ∧ bt s a ≤ 239 ∧ tl s (a + 1) 128 191 = true ∧ tl s (a + 2) 128 191 = true) by omega)] at u2
              cases t1 : tl s (a + 1) 128 191
              · exact key 0 (by rw [u2, if_neg (by rw [t1]; simp)]) (char_4n1 s a ha w hs (by omega) (by omega) t1)
              · cases t2 : tl s (a + 2) 128 191
                · exact key 0 (by rw [u2, if_neg (by rw [t2]; simp)]) (char_4n2 s a ha w hs (by omega) (by omega) t1 t2)
                · cases t3 : tl s (a + 3) 128 191
                  · exact key 0 (by rw [u2, if_neg (by rw [t3]; simp)]) (char_4n3 s a ha w hs (by omega) (by omega) t1 t2 t3)
                  · rw [if_pos ⟨by omega, by omega, t1, t2, t3⟩] at u2
                    by_cases e1 : bt s a = 240
                    · cases t4 : tl s (a + 1) 144 191
                      · exact key 0 (by rw [u2, if_pos (.inl ⟨e1, t4⟩)]) (char_4_240_false s a ha w hs (by omega) (by omega) t1 t2 t3 e1 t4)
                      · exact key 4 (by rw [u2, if_neg (by rw [t4]; rintro (⟨_, h⟩ | ⟨h, _⟩); exact absurd h (by simp); omega)]) (char_4_240_true s a ha w hs (by omega) (by omega) t1 t2 t3 e1 t4)
                    · by_cases e2 : bt s a = 244
                      · cases t4 : tl s (a + 1) 128 143
                        · exact key 0 (by rw [u2, if_pos (.inr ⟨e2, t4⟩)]) (char_4_244_false s a ha w hs (by omega) (by omega) t1 t2 t3 e2 t4)
                        · exact key 4 (by rw [u2, if_neg (by rw [t4]; rintro (⟨h, _⟩ | ⟨_, h⟩); omega; exact absurd h (by simp))]) (char_4_244_true s a ha w hs (by omega) (by omega) t1 t2 t3 e2 t4)
                      · exact key 4 (by rw [u2, if_neg (by rintro (⟨h, _⟩ | ⟨h, _⟩); exact e1 h; exact e2 h)]) (char_4 s a ha w hs (by omega) (by omega) t1 t2 t3 (beq_eq_false_iff_ne.2 e1) (beq_eq_false_iff_ne.2 e2))
end Go.Proofs.YtlnanenfpapfkaaDoor

/- The walks of the document's Fault. -/
namespace Go.Proofs.YtlnanenfpapfkaaDoor
open Go.RowKit Pl Go.Shelf
open Go.PlainAid (bt bt_nonneg bt_le get_bt bt_end)

theorem reffault_any (s : ByteArray) (w : World) (hs : s.size ≤ 281474976710656) :
    Calls Tryd.prog 97 #[.string s] w fun e w' => e = .returned (.tuple #[.int .i64 (flt s s.size 0).1, .bool (flt s s.size 0).2]) ∧ w = w' := by
  go_enter Tryd.func97, Tryd.ntmps97
  go_wp2
  go_loop [4] (fun i => ∃ a f : Nat, i = .int .i64 a ∧ a ≤ s.size ∧ s.size ≤ a + f ∧ Hid (flt s s.size 0 = flt s f a)) (fun i => s.size - (intOf i).toNat)
  case atStart => exact ⟨0, s.size, rfl, by omega, by omega, rfl⟩
  case round =>
    obtain ⟨a, f, rfl, ha, hf, hv⟩ := hrel
    by_cases hlt : a < s.size
    · obtain ⟨n, hn⟩ : ∃ n, nx s a = n := ⟨_, rfl⟩
      have Hn := Lib.hid hn
      clear hn
      by_cases h0 : n = 0
      · have hr := Lib.hid (hv.out.trans (flt_bad hlt hf (Hn.out.trans h0)))
        subst h0
        go_wp2_with fail
        refine (char_any s a hlt _ hs).mono ?_
        rintro e w1 ⟨rfl, rfl⟩
        rw [Hn.out]
        go_wp2
        go_ret2
        exact ⟨ret2 (val_int (by rw [hr.out])) (val_bool (by rw [hr.out])), rfl⟩
      · have hne : ((n : Int) == 0) = false := by rw [beq_eq_false_iff_ne]; omega
        have hle : a + n ≤ s.size := by have := nx_le s a (by rw [Hn.out]; exact h0); rw [Hn.out] at this; exact this
        have hr := Lib.hid (hv.out.trans (flt_step hlt hf (by rw [Hn.out]; exact h0)))
        go_wp2_with fail
        refine (char_any s a hlt _ hs).mono ?_
        rintro e w1 ⟨rfl, rfl⟩
        rw [Hn.out]
        go_wp2
        go_round
        case rel => exact ⟨a + n, f - 1, by go_num, hle, by omega, by rw [hr.out, Hn.out]; exact Lib.hid rfl⟩
        case measure => simp [intOf]; omega
    · have hr := Lib.hid (hv.out.trans (flt_end (by omega)))
      go_wp2
      go_ret2
      exact ⟨ret2 (val_int (by rw [hr.out])) (val_bool (by rw [hr.out])), rfl⟩

end Go.Proofs.YtlnanenfpapfkaaDoor

/- Plain facts about numbers of one, two or four bytes; no program in sight. -/
namespace Go.Proofs.YtlnanenfpapfkaaDoor.Pl
open Go.PlainAid (bt bt_nonneg bt_le get_bt bt_end)

/-- The lowest r bytes of a number, the highest first. -/
def fb : Nat → Int → List UInt8
  | 0, _ => []
  | r + 1, n => by8 (n / 256 ^ r) :: fb r n
theorem fb_length (r : Nat) (n : Int) : (fb r n).length = r := by
  induction r with
  | zero => rfl
  | succ r ih => simp [fb, ih]
theorem by8_mod (n : Int) : by8 (n % 256) = by8 n := by unfold by8; rw [Int.emod_emod_of_dvd n (Int.dvd_refl 256)]
/-- One, two or four bytes. -/
def Wide (w : Int) : Prop := w = 1 ∨ w = 2 ∨ w = 4
instance (w : Int) : Decidable (Wide w) := by unfold Wide; infer_instance
def fixC (w n : Int) : Int := if ¬ Wide w then 128 else if n < 0 ∨ 256 ^ w.toNat ≤ n then 129 else 0
def fixS (w n : Int) : List UInt8 := if fixC w n = 0 then fb w.toNat n else []
theorem fixC_bd (w n : Int) : 0 ≤ fixC w n ∧ fixC w n ≤ 129 := by
  unfold fixC
  repeat' split
  all_goals omega
theorem fix_bad {w n : Int} (h : ¬ Wide w) : fixC w n = 128 ∧ fixS w n = [] := by
  have h1 : fixC w n = 128 := by unfold fixC; rw [if_pos h]
  exact ⟨h1, by unfold fixS; rw [h1]; rfl⟩
theorem fix_out {w n : Int} (h : Wide w) (hn : n < 0 ∨ 256 ^ w.toNat ≤ n) : fixC w n = 129 ∧ fixS w n = [] := by
  have h1 : fixC w n = 129 := by unfold fixC; rw [if_neg (not_not_intro h), if_pos hn]
  exact ⟨h1, by unfold fixS; rw [h1]; rfl⟩
theorem fix_in {w n : Int} (h : Wide w) (h0 : 0 ≤ n) (h1 : n < 256 ^ w.toNat) : fixC w n = 0 ∧ fixS w n = fb w.toNat n := by
  have h2 : fixC w n = 0 := by unfold fixC; rw [if_neg (not_not_intro h), if_neg (by omega)]
  exact ⟨h2, by unfold fixS; rw [h2]; rfl⟩

/-- The number of the first k bytes at a place. -/
def gv (s : ByteArray) (a : Nat) : Nat → Int
  | 0 => 0
  | k + 1 => gv s a k * 256 + bt s (a + k)
theorem gv_bd (s : ByteArray) (a : Nat) : ∀ k, 0 ≤ gv s a k ∧ gv s a k < 256 ^ k
  | 0 => ⟨Int.le_refl _, by show (0 : Int) < 1; decide⟩
  | k + 1 => by
    have ⟨h0, h1⟩ := gv_bd s a k
    have hb0 := bt_nonneg s (a + k)
    have hb1 := bt_le s (a + k)
    simp only [gv, Int.pow_succ]
    omega
theorem gv_bd3 (s : ByteArray) (a k : Nat) (h : k ≤ 3) : gv s a k < 16777216 := by
  have ⟨_, h1⟩ := gv_bd s a k
  obtain rfl | rfl | rfl | rfl : k = 0 ∨ k = 1 ∨ k = 2 ∨ k = 3 := by omega
  all_goals (simp at h1; omega)
/-- The number of so many bytes at a place: the number, the place behind it, the code. -/
def getF (s : ByteArray) (at_ w : Int) : Int × Int × Int :=
  if ¬ Wide w ∨ at_ < 0 ∨ (s.size : Int) < at_ then (0, 0, 128) else if (s.size : Int) - at_ < w then (0, 0, 242) else (gv s at_.toNat w.toNat, at_ + w, 0)
theorem getF_bad {s : ByteArray} {at_ w : Int} (h : ¬ Wide w ∨ at_ < 0 ∨ (s.size : Int) < at_) : getF s at_ w = (0, 0, 128) := by unfold getF; rw [if_pos h]
theorem getF_none {s : ByteArray} {at_ w : Int} (h : ¬ (¬ Wide w ∨ at_ < 0 ∨ (s.size : Int) < at_)) (h2 : (s.size : Int) - at_ < w) : getF s at_ w = (0, 0, 242) := by unfold getF; rw [if_neg h, if_pos h2]
theorem getF_ok {s : ByteArray} {a : Nat} {w : Int} (h : Wide w) (h2 : (a : Int) + w ≤ s.size) : getF s a w = (gv s a w.toNat, a + w, 0) := by
  unfold getF
  have : 0 < w := by unfold Wide at h; omega
  rw [if_neg (by rintro (h3 | h3 | h3); exact h3 h; omega; omega), if_neg (by omega)]
  rfl
theorem getF_code (s : ByteArray) (at_ w : Int) : 0 ≤ (getF s at_ w).2.2 ∧ (getF s at_ w).2.2 ≤ 242 := by
  unfold getF
  repeat' split
  all_goals exact ⟨by simp, by simp⟩
theorem fx_div {m n : Int} {k : Nat} (h : m = n / 256 ^ k) : m / 256 = n / 256 ^ (k + 1) := by
  rw [h, Int.pow_succ, Int.ediv_ediv_of_nonneg (Int.pow_nonneg (by decide))]
theorem fx_cons {m n : Int} {k : Nat} {l : List UInt8} (h : m = n / 256 ^ k) (hl : l = fb k n) : by8 (m % 256) :: l = fb (k + 1) n := by
  rw [by8_mod, h, hl]
  rfl
end Go.Proofs.YtlnanenfpapfkaaDoor.Pl

/- The walks of both Fixed functions and of both GetFixed functions. -/
namespace Go.Proofs.YtlnanenfpapfkaaDoor
open Go.RowKit Pl
open Go.PlainAid (bt bt_nonneg bt_le get_bt bt_end)
theorem u8_info' : (Tryd.prog.info? 5).map (fun i => (i.zero, i.size, i.bytes)) = some (some (.int .u8 0), 1, 1) := by kernel_rfl
theorem ret_getf {k : IntKind} {p : Int × Int × Int} {x y z : Int} (h : p = (x, y, z)) :
    Ending.returned (.tuple #[.int .i64 x, .int .i64 y, .int k z]) = .returned (.tuple #[.int .i64 p.1, .int .i64 p.2.1, .int k p.2.2]) := by rw [h]
theorem ret_fix {k : IntKind} {w n c : Int} {l : List UInt8} (h : fixC w n = c ∧ fixS w n = l) :
    Ending.returned (.tuple #[.string ⟨l.toArray⟩, .int k c]) = .returned (.tuple #[.string ⟨(fixS w n).toArray⟩, .int k (fixC w n)]) := by rw [h.1, h.2]

set_option maxRecDepth 100000 in
theorem fixed_1 (n : Int) (w : World) (h0 : 0 ≤ n) (h1 : n < 256) :
    Calls Tryd.prog 20 #[.int .i64 1, .int .i64 n] w fun e w' => e = .returned (.tuple #[.string ⟨(fb 1 n).toArray⟩, .int .u8 0]) ∧ Below w.heap.size w w' := by
  obtain ⟨i0, hi, hz0, hz1, hz2⟩ := info_parts u8_info'
  go_enter Tryd.func20, Tryd.ntmps20
  go_wp2
  go_loopw [7, 6] (fun i b wr => ∃ (r : Nat) (q : Int) (l : List UInt8), i = .int .i64 q ∧ r ≤ 1 ∧ q = r - 1 ∧ wr.ownsRow w.heap.size 5 1 b (1 - r) (cells8 l) ∧ l ++ fb r n = fb 1 n ∧ Below w.heap.size w wr)
    (fun i _ _ => (intOf i + 1).toNat)
  case atStart => exact ⟨1, _, [], rfl, by omega, by omega, World.ownsRow_nil _ _ _ _, rfl, Below.refl _ _⟩
  case round =>
    obtain ⟨r, q, l, rfl, hr, hq, hown, hv', hbel⟩ := hrel
    have hv := Lib.hid hv'
    clear hv'
    obtain rfl | rfl := (show r = 0 ∨ r = 1 by omega)
    · have hq0 : q = -1 := by omega
      clear hq
      subst hq0
      have hc := run_string_own (P := Tryd.prog) 22 9 5 w.heap.size _ _ l Tryd.underlying22 Tryd.underlying5 Tryd.underlying9 hown
      have hl := Lib.hid (show l = fb 1 n by have := hv.out; simpa [fb] using this)
      go_wp2
      go_ret2
      exact ⟨ret2 (val_str hl.out) rfl, hbel⟩
    · have hq0 : q = 0 := by omega
      clear hq
      subst hq0
      go_wp2_with (at_builtin; refine wpList_push (.tmp 28) (.tmp 34) 22 5 i0 (.int .u8 0) 1 rfl rfl Tryd.underlying22 hi hz0 hz1 hz2 rfl w.heap.size _ 0 (cells8 l) (.int .u8 (n)) rfl rfl hown hbel hbel.size rfl (by simp [maxLen]) (by omega) ?_; intro v' w1 hown1 hbel1 hs1 hn1)
      go_wp2
      go_roundw
      case rel => exact ⟨0, 0 - 1, l ++ [by8 (n)], by go_num, by omega, by omega, by rw [← cells8_snoc l (n) (n) (by omega)]; exact hown1, by rw [← hv.out]; simp [fb], hbel1⟩
      case measure => simp [intOf]
set_option maxRecDepth 100000 in
theorem fixed_2 (n : Int) (w : World) (h0 : 0 ≤ n) (h1 : n < 65536) :
    Calls Tryd.prog 20 #[.int .i64 2, .int .i64 n] w fun e w' => e = .returned (.tuple #[.string ⟨(fb 2 n).toArray⟩, .int .u8 0]) ∧ Below w.heap.size w w' := by
  obtain ⟨i0, hi, hz0, hz1, hz2⟩ := info_parts u8_info'
  go_enter Tryd.func20, Tryd.ntmps20
  go_wp2
  go_loopw [7, 6] (fun i b wr => ∃ (r : Nat) (q : Int) (l : List UInt8), i = .int .i64 q ∧ r ≤ 2 ∧ q = r - 1 ∧ wr.ownsRow w.heap.size 5 1 b (2 - r) (cells8 l) ∧ l ++ fb r n = fb 2 n ∧ Below w.heap.size w wr)
    (fun i _ _ => (intOf i + 1).toNat)
  case atStart => exact ⟨2, _, [], rfl, by omega, by omega, World.ownsRow_nil _ _ _ _, rfl, Below.refl _ _⟩
  case round =>
    obtain ⟨r, q, l, rfl, hr, hq, hown, hv', hbel⟩ := hrel
    have hv := Lib.hid hv'
    clear hv'
    obtain rfl | rfl | rfl := (show r = 0 ∨ r = 1 ∨ r = 2 by omega)
    · have hq0 : q = -1 := by omega
      clear hq
      subst hq0
      have hc := run_string_own (P := Tryd.prog) 22 9 5 w.heap.size _ _ l Tryd.underlying22 Tryd.underlying5 Tryd.underlying9 hown
      have hl := Lib.hid (show l = fb 2 n by have := hv.out; simpa [fb] using this)
      go_wp2
      go_ret2
      exact ⟨ret2 (val_str hl.out) rfl, hbel⟩
    · have hq0 : q = 0 := by omega
      clear hq
      subst hq0
      go_wp2_with (at_builtin; refine wpList_push (.tmp 28) (.tmp 34) 22 5 i0 (.int .u8 0) 1 rfl rfl Tryd.underlying22 hi hz0 hz1 hz2 rfl w.heap.size _ 1 (cells8 l) (.int .u8 ((n) % 256)) rfl rfl hown hbel hbel.size rfl (by simp [maxLen]) (by omega) ?_; intro v' w1 hown1 hbel1 hs1 hn1)
      go_wp2
      go_roundw
      case rel => exact ⟨0, 0 - 1, l ++ [by8 (n)], by go_num, by omega, by omega, by rw [← cells8_snoc l (n) ((n) % 256) rfl]; exact hown1, by rw [← hv.out]; simp [fb], hbel1⟩
      case measure => simp [intOf]
    · have hq0 : q = 1 := by omega
      clear hq
      subst hq0
      go_wp2_with (at_builtin; refine wpList_push (.tmp 28) (.tmp 34) 22 5 i0 (.int .u8 0) 1 rfl rfl Tryd.underlying22 hi hz0 hz1 hz2 rfl w.heap.size _ 0 (cells8 l) (.int .u8 (n / 256)) rfl rfl hown hbel hbel.size rfl (by simp [maxLen]) (by omega) ?_; intro v' w1 hown1 hbel1 hs1 hn1)
      go_wp2
      go_roundw
      case rel => exact ⟨1, 1 - 1, l ++ [by8 (n / 256)], by go_num, by omega, by omega, by rw [← cells8_snoc l (n / 256) (n / 256) (by omega)]; exact hown1, by rw [← hv.out]; simp [fb], hbel1⟩
      case measure => simp [intOf]
set_option maxRecDepth 100000 in
theorem fixed_4 (n : Int) (w : World) (h0 : 0 ≤ n) (h1 : n < 4294967296) :
    Calls Tryd.prog 20 #[.int .i64 4, .int .i64 n] w fun e w' => e = .returned (.tuple #[.string ⟨(fb 4 n).toArray⟩, .int .u8 0]) ∧ Below w.heap.size w w' := by
  obtain ⟨i0, hi, hz0, hz1, hz2⟩ := info_parts u8_info'
  go_enter Tryd.func20, Tryd.ntmps20
  go_wp2
  go_loopw [7, 6] (fun i b wr => ∃ (r : Nat) (q : Int) (l : List UInt8), i = .int .i64 q ∧ r ≤ 4 ∧ q = r - 1 ∧ wr.ownsRow w.heap.size 5 1 b (4 - r) (cells8 l) ∧ l ++ fb r n = fb 4 n ∧ Below w.heap.size w wr)
    (fun i _ _ => (intOf i + 1).toNat)
  case atStart => exact ⟨4, _, [], rfl, by omega, by omega, World.ownsRow_nil _ _ _ _, rfl, Below.refl _ _⟩
  case round =>
    obtain ⟨r, q, l, rfl, hr, hq, hown, hv', hbel⟩ := hrel
    have hv := Lib.hid hv'
    clear hv'
    obtain rfl | rfl | rfl | rfl | rfl := (show r = 0 ∨ r = 1 ∨ r = 2 ∨ r = 3 ∨ r = 4 by omega)
    · have hq0 : q = -1 := by omega
      clear hq
      subst hq0
      have hc := run_string_own (P := Tryd.prog) 22 9 5 w.heap.size _ _ l Tryd.underlying22 Tryd.underlying5 Tryd.underlying9 hown
      have hl := Lib.hid (show l = fb 4 n by have := hv.out; simpa [fb] using this)
      go_wp2
      go_ret2
      exact ⟨ret2 (val_str hl.out) rfl, hbel⟩
    · have hq0 : q = 0 := by omega
      clear hq
      subst hq0
      go_wp2_with (at_builtin; refine wpList_push (.tmp 28) (.tmp 34) 22 5 i0 (.int .u8 0) 1 rfl rfl Tryd.underlying22 hi hz0 hz1 hz2 rfl w.heap.size _ 3 (cells8 l) (.int .u8 ((n) % 256)) rfl rfl hown hbel hbel.size rfl (by simp [maxLen]) (by omega) ?_; intro v' w1 hown1 hbel1 hs1 hn1)
      go_wp2
      go_roundw
      case rel => exact ⟨0, 0 - 1, l ++ [by8 (n)], by go_num, by omega, by omega, by rw [← cells8_snoc l (n) ((n) % 256) rfl]; exact hown1, by rw [← hv.out]; simp [fb], hbel1⟩
      case measure => simp [intOf]
    · have hq0 : q = 1 := by omega
      clear hq
      subst hq0
      go_wp2_with (at_builtin; refine wpList_push (.tmp 28) (.tmp 34) 22 5 i0 (.int .u8 0) 1 rfl rfl Tryd.underlying22 hi hz0 hz1 hz2 rfl w.heap.size _ 2 (cells8 l) (.int .u8 ((n / 256) % 256)) rfl rfl hown hbel hbel.size rfl (by simp [maxLen]) (by omega) ?_; intro v' w1 hown1 hbel1 hs1 hn1)
      go_wp2
      go_roundw
      case rel => exact ⟨1, 1 - 1, l ++ [by8 (n / 256)], by go_num, by omega, by omega, by rw [← cells8_snoc l (n / 256) ((n / 256) % 256) rfl]; exact hown1, by rw [← hv.out]; simp [fb], hbel1⟩
      case measure => simp [intOf]
    · have hq0 : q = 2 := by omega
      clear hq
      subst hq0
      go_wp2_with (at_builtin; refine wpList_push (.tmp 28) (.tmp 34) 22 5 i0 (.int .u8 0) 1 rfl rfl Tryd.underlying22 hi hz0 hz1 hz2 rfl w.heap.size _ 1 (cells8 l) (.int .u8 ((n / 65536) % 256)) rfl rfl hown hbel hbel.size rfl (by simp [maxLen]) (by omega) ?_; intro v' w1 hown1 hbel1 hs1 hn1)
      go_wp2
      go_roundw
      case rel => exact ⟨2, 2 - 1, l ++ [by8 (n / 65536)], by go_num, by omega, by omega, by rw [← cells8_snoc l (n / 65536) ((n / 65536) % 256) rfl]; exact hown1, by rw [← hv.out]; simp [fb], hbel1⟩
      case measure => simp [intOf]
    · have hq0 : q = 3 := by omega
      clear hq
      subst hq0
      go_wp2_with (at_builtin; refine wpList_push (.tmp 28) (.tmp 34) 22 5 i0 (.int .u8 0) 1 rfl rfl Tryd.underlying22 hi hz0 hz1 hz2 rfl w.heap.size _ 0 (cells8 l) (.int .u8 (n / 16777216)) rfl rfl hown hbel hbel.size rfl (by simp [maxLen]) (by omega) ?_; intro v' w1 hown1 hbel1 hs1 hn1)
      go_wp2
      go_roundw
      case rel => exact ⟨3, 3 - 1, l ++ [by8 (n / 16777216)], by go_num, by omega, by omega, by rw [← cells8_snoc l (n / 16777216) (n / 16777216) (by omega)]; exact hown1, by rw [← hv.out]; simp [fb], hbel1⟩
      case measure => simp [intOf]

set_option maxRecDepth 100000 in
theorem fixed_all (d n : Int) (w : World) : Calls Tryd.prog 20 #[.int .i64 d, .int .i64 n] w fun e w' => e = .returned (.tuple #[.string ⟨(fixS d n).toArray⟩, .int .u8 (fixC d n)]) ∧ Below w.heap.size w w' := by
  by_cases hw : Wide d
  · by_cases hn : n < 0 ∨ 256 ^ d.toNat ≤ n
    · have hf := Lib.hid (fix_out hw hn)
      rcases hw with rfl | rfl | rfl
      all_goals
        simp at hn
        go_enter Tryd.func20, Tryd.ntmps20
        go_wp2
        all_goals go_ret2
        all_goals exact ⟨ret_fix (l := []) hf.out, Below.refl _ _⟩
    · have hf := fix_in (w := d) (n := n) hw (by omega) (by omega)
      rw [hf.1, hf.2]
      rcases hw with rfl | rfl | rfl
      · exact fixed_1 n w (by omega) (by simp at hn; omega)
      · exact fixed_2 n w (by omega) (by simp at hn; omega)
      · exact fixed_4 n w (by omega) (by simp at hn; omega)
  · have hf := Lib.hid (fix_bad (n := n) hw)
    have h1 : (d == 1) = false := by rw [beq_eq_false_iff_ne]; rintro rfl; exact hw (.inl rfl)
    have h2 : (d == 2) = false := by rw [beq_eq_false_iff_ne]; rintro rfl; exact hw (.inr (.inl rfl))
    have h4 : (d == 4) = false := by rw [beq_eq_false_iff_ne]; rintro rfl; exact hw (.inr (.inr rfl))
    clear hw
    go_enter Tryd.func20, Tryd.ntmps20
    go_wp2
    all_goals go_ret2
    all_goals exact ⟨ret_fix (l := []) hf.out, Below.refl _ _⟩

set_option maxRecDepth 100000 in
theorem reffixed_1 (n : Int) (w : World) (h0 : 0 ≤ n) (h1 : n < 256) :
    Calls Tryd.prog 25 #[.int .i64 1, .int .i64 n] w fun e w' => e = .returned (.tuple #[.string ⟨(fb 1 n).toArray⟩, .int .i64 0]) ∧ Below w.heap.size w w' := by
  have hone := fun W x => run_string_one (P := Tryd.prog) (w := W) 22 9 5 x Tryd.underlying22 Tryd.underlying5 Tryd.underlying9
  go_enter Tryd.func25, Tryd.ntmps25
  go_wp2
  go_loopw [1, 7, 8] (fun vm s i wr => ∃ (m : Int) (k : Nat) (l : List UInt8), vm = .int .i64 m ∧ i = .int .i64 k ∧ s = .string ⟨l.toArray⟩ ∧ k ≤ 1 ∧ 0 ≤ m ∧ m < 256 ∧ l.length ≤ 4 ∧ Hid (m = n / 256 ^ k ∧ l = fb k n) ∧ Below w.heap.size w wr)
    (fun _ _ i _ => (1 - intOf i).toNat)
  case atStart => exact ⟨n, 0, [], rfl, rfl, rfl, by omega, h0, h1, by simp, ⟨by simp, rfl⟩, Below.refl _ _⟩
  case round =>
    obtain ⟨m, k, l, rfl, rfl, rfl, hk, hm0, hm1, hl4, hv, hbel⟩ := hrel
    have hlen : l.length = k := by rw [hv.out.2, fb_length]
    by_cases hkw : k < 1
    · have hl3 : l.length + 1 ≤ 4 := by omega
      have Hl := Lib.hid hlen
      clear hlen
      go_wp2
      go_roundw
      case rel => exact ⟨m / 256, k + 1, by8 (m % 256) :: l, rfl, by go_num, str_cons l (by omega) (by omega), by omega, by omega, by omega, by simpa using hl3, ⟨fx_div hv.out.1, fx_cons hv.out.1 hv.out.2⟩, hbel.alloc hbel.size _⟩
      case measure => simp [intOf]; omega
    · have Hl := Lib.hid (show l = fb 1 n by rw [hv.out.2]; congr 1; omega)
      clear hlen
      go_wp2
      go_ret2
      exact ⟨ret2 (val_str Hl.out) rfl, hbel⟩

set_option maxRecDepth 100000 in
theorem reffixed_2 (n : Int) (w : World) (h0 : 0 ≤ n) (h1 : n < 65536) :
    Calls Tryd.prog 25 #[.int .i64 2, .int .i64 n] w fun e w' => e = .returned (.tuple #[.string ⟨(fb 2 n).toArray⟩, .int .i64 0]) ∧ Below w.heap.size w w' := by
  have hone := fun W x => run_string_one (P := Tryd.prog) (w := W) 22 9 5 x Tryd.underlying22 Tryd.underlying5 Tryd.underlying9
  go_enter Tryd.func25, Tryd.ntmps25
  go_wp2
  go_loopw [1, 7, 8] (fun vm s i wr => ∃ (m : Int) (k : Nat) (l : List UInt8), vm = .int .i64 m ∧ i = .int .i64 k ∧ s = .string ⟨l.toArray⟩ ∧ k ≤ 2 ∧ 0 ≤ m ∧ m < 65536 ∧ l.length ≤ 4 ∧ Hid (m = n / 256 ^ k ∧ l = fb k n) ∧ Below w.heap.size w wr)
    (fun _ _ i _ => (2 - intOf i).toNat)
  case atStart => exact ⟨n, 0, [], rfl, rfl, rfl, by omega, h0, h1, by simp, ⟨by simp, rfl⟩, Below.refl _ _⟩
  case round =>
    obtain ⟨m, k, l, rfl, rfl, rfl, hk, hm0, hm1, hl4, hv, hbel⟩ := hrel
    have hlen : l.length = k := by rw [hv.out.2, fb_length]
    by_cases hkw : k < 2
    · have hl3 : l.length + 1 ≤ 4 := by omega
      have Hl := Lib.hid hlen
      clear hlen
      go_wp2
      go_roundw
      case rel => exact ⟨m / 256, k + 1, by8 (m % 256) :: l, rfl, by go_num, str_cons l (by omega) (by omega), by omega, by omega, by omega, by simpa using hl3, ⟨fx_div hv.out.1, fx_cons hv.out.1 hv.out.2⟩, hbel.alloc hbel.size _⟩
      case measure => simp [intOf]; omega
    · have Hl := Lib.hid (show l = fb 2 n by rw [hv.out.2]; congr 1; omega)
      clear hlen
      go_wp2
      go_ret2
      exact ⟨ret2 (val_str Hl.out) rfl, hbel⟩

set_option maxRecDepth 100000 in
theorem reffixed_4 (n : Int) (w : World) (h0 : 0 ≤ n) (h1 : n < 4294967296) :
    Calls Tryd.prog 25 #[.int .i64 4, .int .i64 n] w fun e w' => e = .returned (.tuple #[.string ⟨(fb 4 n).toArray⟩, .int .i64 0]) ∧ Below w.heap.size w w' := by
  have hone := fun W x => run_string_one (P := Tryd.prog) (w := W) 22 9 5 x Tryd.underlying22 Tryd.underlying5 Tryd.underlying9
  go_enter Tryd.func25, Tryd.ntmps25
  go_wp2
  go_loopw [1, 7, 8] (fun vm s i wr => ∃ (m : Int) (k : Nat) (l : List UInt8), vm = .int .i64 m ∧ i = .int .i64 k ∧ s = .string ⟨l.toArray⟩ ∧ k ≤ 4 ∧ 0 ≤ m ∧ m < 4294967296 ∧ l.length ≤ 4 ∧ Hid (m = n / 256 ^ k ∧ l = fb k n) ∧ Below w.heap.size w wr)
    (fun _ _ i _ => (4 - intOf i).toNat)
  case atStart => exact ⟨n, 0, [], rfl, rfl, rfl, by omega, h0, h1, by simp, ⟨by simp, rfl⟩, Below.refl _ _⟩
  case round =>
    obtain ⟨m, k, l, rfl, rfl, rfl, hk, hm0, hm1, hl4, hv, hbel⟩ := hrel
    have hlen : l.length = k := by rw [hv.out.2, fb_length]
    by_cases hkw : k < 4
    · have hl3 : l.length + 1 ≤ 4 := by omega
      have Hl := Lib.hid hlen
      clear hlen
      go_wp2
      go_roundw
      case rel => exact ⟨m / 256, k + 1, by8 (m % 256) :: l, rfl, by go_num, str_cons l (by omega) (by omega), by omega, by omega, by omega, by simpa using hl3, ⟨fx_div hv.out.1, fx_cons hv.out.1 hv.out.2⟩, hbel.alloc hbel.size _⟩
      case measure => simp [intOf]; omega
    · have Hl := Lib.hid (show l = fb 4 n by rw [hv.out.2]; congr 1; omega)
      clear hlen
      go_wp2
      go_ret2
      exact ⟨ret2 (val_str Hl.out) rfl, hbel⟩

set_option maxRecDepth 100000 in
theorem reffixed_all (d n : Int) (w : World) : Calls Tryd.prog 25 #[.int .i64 d, .int .i64 n] w fun e w' => e = .returned (.tuple #[.string ⟨(fixS d n).toArray⟩, .int .i64 (fixC d n)]) ∧ Below w.heap.size w w' := by
  by_cases hw : Wide d
  · by_cases hn : n < 0 ∨ 256 ^ d.toNat ≤ n
    · have hf := Lib.hid (fix_out hw hn)
      rcases hw with rfl | rfl | rfl
      all_goals
        simp at hn
        go_enter Tryd.func25, Tryd.ntmps25
        go_wp2
        all_goals go_ret2
        all_goals exact ⟨ret_fix (l := []) hf.out, Below.refl _ _⟩
    · have hf := fix_in (w := d) (n := n) hw (by omega) (by omega)
      rw [hf.1, hf.2]
      rcases hw with rfl | rfl | rfl
      · exact reffixed_1 n w (by omega) (by simp at hn; omega)
      · exact reffixed_2 n w (by omega) (by simp at hn; omega)
      · exact reffixed_4 n w (by omega) (by simp at hn; omega)
  · have hf := Lib.hid (fix_bad (n := n) hw)
    have h1 : (d == 1) = false := by rw [beq_eq_false_iff_ne]; rintro rfl; exact hw (.inl rfl)
    have h2 : (d == 2) = false := by rw [beq_eq_false_iff_ne]; rintro rfl; exact hw (.inr (.inl rfl))
    have h4 : (d == 4) = false := by rw [beq_eq_false_iff_ne]; rintro rfl; exact hw (.inr (.inr rfl))
    clear hw
    go_enter Tryd.func25, Tryd.ntmps25
    go_wp2
    all_goals go_ret2
    all_goals exact ⟨ret_fix (l := []) hf.out, Below.refl _ _⟩
end Go.Proofs.YtlnanenfpapfkaaDoor

/- The walks of both GetFixed functions. -/
namespace Go.Proofs.YtlnanenfpapfkaaDoor
open Go.RowKit Pl
open Go.PlainAid (bt bt_nonneg bt_le get_bt bt_end)

set_option maxRecDepth 100000 in
theorem getfixed_1 (s : ByteArray) (a : Nat) (w : World) (hs : s.size ≤ 140737488351232) (ha : a + 1 ≤ s.size) :
    Calls Tryd.prog 79 #[.string s, .int .i64 a, .int .i64 1] w fun e w' => e = .returned (.tuple #[.int .i64 (gv s a 1), .int .i64 (a + 1), .int .u8 0]) ∧ w = w' := by
  have hbt := get_bt s
  go_enter Tryd.func79, Tryd.ntmps79
  go_wp2
  go_loop [33, 9] (fun i v => ∃ k : Nat, i = .int .i64 k ∧ v = .int .i64 (gv s a k) ∧ k ≤ 1) (fun i _ => (1 - intOf i).toNat)
  case atStart => exact ⟨0, rfl, rfl, by omega⟩
  case round =>
    obtain ⟨k, rfl, rfl, hk⟩ := hrel
    by_cases hkw : k < 1
    · have hg0 := (gv_bd s a k).1
      have hg1 := gv_bd3 s a k (by omega)
      have hn := Lib.hid (show gv s a (k + 1) = gv s a k * 256 + bt s (a + k) from rfl)
      have hb0 := bt_nonneg s (a + k)
      have hb1 := bt_le s (a + k)
      have hor : bits .or .i64 (gv s a k * 256) (bt s (a + k)) = gv s a k * 256 + bt s (a + k) := by
        rw [show gv s a k * 256 = 2 ^ 8 * gv s a k from by omega]
        exact or_low 8 hb0 (by omega) hg0 (by omega)
      go_wp2
      go_round
      case rel => exact ⟨k + 1, by go_num, val_int hn.out.symm, by omega⟩
      case measure => simp [intOf]; omega
    · obtain rfl : k = 1 := by omega
      go_wp2
      go_ret3
      exact ⟨rfl, rfl⟩

set_option maxRecDepth 100000 in
theorem getfixed_2 (s : ByteArray) (a : Nat) (w : World) (hs : s.size ≤ 140737488351232) (ha : a + 2 ≤ s.size) :
    Calls Tryd.prog 79 #[.string s, .int .i64 a, .int .i64 2] w fun e w' => e = .returned (.tuple #[.int .i64 (gv s a 2), .int .i64 (a + 2), .int .u8 0]) ∧ w = w' := by
  have hbt := get_bt s
  go_enter Tryd.func79, Tryd.ntmps79
  go_wp2
  go_loop [33, 9] (fun i v => ∃ k : Nat, i = .int .i64 k ∧ v = .int .i64 (gv s a k) ∧ k ≤ 2) (fun i _ => (2 - intOf i).toNat)
  case atStart => exact ⟨0, rfl, rfl, by omega⟩
  case round =>
    obtain ⟨k, rfl, rfl, hk⟩ := hrel
    by_cases hkw : k < 2
    · have hg0 := (gv_bd s a k).1
      have hg1 := gv_bd3 s a k (by omega)
      have hn := Lib.hid (show gv s a (k + 1) = gv s a k * 256 + bt s (a + k) from rfl)
      have hb0 := bt_nonneg s (a + k)
      have hb1 := bt_le s (a + k)
      have hor : bits .or .i64 (gv s a k * 256) (bt s (a + k)) = gv s a k * 256 + bt s (a + k) := by
        rw [show gv s a k * 256 = 2 ^ 8 * gv s a k from by omega]
        exact or_low 8 hb0 (by omega) hg0 (by omega)
      go_wp2
      go_round
      case rel => exact ⟨k + 1, by go_num, val_int hn.out.symm, by omega⟩
      case measure => simp [intOf]; omega
    · obtain rfl : k = 2 := by omega
      go_wp2
      go_ret3
      exact ⟨rfl, rfl⟩

set_option maxRecDepth 100000 in
theorem getfixed_4 (s : ByteArray) (a : Nat) (w : World) (hs : s.size ≤ 140737488351232) (ha : a + 4 ≤ s.size) :
    Calls Tryd.prog 79 #[.string s, .int .i64 a, .int .i64 4] w fun e w' => e = .returned (.tuple #[.int .i64 (gv s a 4), .int .i64 (a + 4), .int .u8 0]) ∧ w = w' := by
  have hbt := get_bt s
  go_enter Tryd.func79, Tryd.ntmps79
  go_wp2
  go_loop [33, 9] (fun i v => ∃ k : Nat, i = .int .i64 k ∧ v = .int .i64 (gv s a k) ∧ k ≤ 4) (fun i _ => (4 - intOf i).toNat)
  case atStart => exact ⟨0, rfl, rfl, by omega⟩
  case round =>
    obtain ⟨k, rfl, rfl, hk⟩ := hrel
    by_cases hkw : k < 4
    · have hg0 := (gv_bd s a k).1
      have hg1 := gv_bd3 s a k (by omega)
      have hn := Lib.hid (show gv s a (k + 1) = gv s a k * 256 + bt s (a + k) from rfl)
      have hb0 := bt_nonneg s (a + k)
      have hb1 := bt_le s (a + k)
      have hor : bits .or .i64 (gv s a k * 256) (bt s (a + k)) = gv s a k * 256 + bt s (a + k) := by
        rw [show gv s a k * 256 = 2 ^ 8 * gv s a k from by omega]
        exact or_low 8 hb0 (by omega) hg0 (by omega)
      go_wp2
      go_round
      case rel => exact ⟨k + 1, by go_num, val_int hn.out.symm, by omega⟩
      case measure => simp [intOf]; omega
    · obtain rfl : k = 4 := by omega
      go_wp2
      go_ret3
      exact ⟨rfl, rfl⟩

set_option maxRecDepth 100000 in
theorem getfixed_all (s : ByteArray) (at_ d : Int) (w : World) (hs : s.size ≤ 140737488351232) (h0 : -9223372036854775808 ≤ at_) (h1 : at_ ≤ 9223372036854775807) :
    Calls Tryd.prog 79 #[.string s, .int .i64 at_, .int .i64 d] w fun e w' => e = .returned (.tuple #[.int .i64 (getF s at_ d).1, .int .i64 (getF s at_ d).2.1, .int .u8 (getF s at_ d).2.2]) ∧ w = w' := by
  by_cases hw : Wide d
  · by_cases hb : at_ < 0 ∨ (s.size : Int) < at_
    · have hg := Lib.hid (getF_bad (s := s) (at_ := at_) (w := d) (.inr hb))
      rcases hw with rfl | rfl | rfl
      all_goals
        go_enter Tryd.func79, Tryd.ntmps79
        go_wp2
        all_goals go_ret3
        all_goals exact ⟨ret_getf hg.out, rfl⟩
    · obtain ⟨a, rfl⟩ := Int.eq_ofNat_of_zero_le (show 0 ≤ at_ by omega)
      by_cases hr : (s.size : Int) - a < d
      · have hg := Lib.hid (getF_none (s := s) (at_ := a) (w := d) (by rintro (h | h); exact h hw; exact hb h) hr)
        have ha : a ≤ s.size := by omega
        clear hb
        rcases hw with rfl | rfl | rfl
        all_goals
          go_enter Tryd.func79, Tryd.ntmps79
          go_wp2
          all_goals go_ret3
          all_goals exact ⟨ret_getf hg.out, rfl⟩
      · rw [getF_ok hw (by omega)]
        rcases hw with rfl | rfl | rfl
        · exact getfixed_1 s a w hs (by omega)
        · exact getfixed_2 s a w hs (by omega)
        · exact getfixed_4 s a w hs (by omega)
  · have hg := Lib.hid (getF_bad (s := s) (at_ := at_) (w := d) (.inl hw))
    have h1 : (d == 1) = false := by rw [beq_eq_false_iff_ne]; rintro rfl; exact hw (.inl rfl)
    have h2 : (d == 2) = false := by rw [beq_eq_false_iff_ne]; rintro rfl; exact hw (.inr (.inl rfl))
    have h4 : (d == 4) = false := by rw [beq_eq_false_iff_ne]; rintro rfl; exact hw (.inr (.inr rfl))
    clear hw
    go_enter Tryd.func79, Tryd.ntmps79
    go_wp2
    all_goals go_ret3
    all_goals exact ⟨ret_getf hg.out, rfl⟩

end Go.Proofs.YtlnanenfpapfkaaDoor
