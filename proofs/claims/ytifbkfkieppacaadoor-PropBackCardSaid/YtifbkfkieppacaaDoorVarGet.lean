/- The walks of both Get functions. -/
import Derived.Test.YtifbkfkieppacaaDoorVarSize
namespace Go.Proofs.YtifbkfkieppacaaDoor
open Go.RowKit Pl
open Go.PlainAid (bt bt_nonneg bt_le get_bt bt_end)

/-- What the three results of a reading are, as values. -/
theorem ret_get {k : IntKind} {p : Int × Int × Int} {x y z : Int} (h : p = (x, y, z)) :
    Ending.returned (.tuple #[.int .i64 x, .int .i64 y, .int k z]) = .returned (.tuple #[.int .i64 p.1, .int .i64 p.2.1, .int k p.2.2]) := by rw [h]

set_option maxHeartbeats 1000000 in
theorem get_in (s : ByteArray) (a : Nat) (w : World) (hs : s.size ≤ 140737488351232) (ha : a ≤ s.size) :
    Calls Tryd.prog 25 #[.string s, .int .i64 a] w fun e w' => e = .returned (.tuple #[.int .i64 (gi s 4 0 0 a).1, .int .i64 (gi s 4 0 0 a).2.1, .int .u8 (gi s 4 0 0 a).2.2]) ∧ w = w' := by
  have hbt := get_bt s
  go_enter Tryd.func25, Tryd.ntmps25
  go_wp2
  go_loop [18, 7] (fun i v => ∃ (k : Nat) (n : Int), i = .int .i64 k ∧ v = .int .i64 n ∧ k ≤ 4 ∧ 0 ≤ n ∧ n < 128 ^ k ∧ gi s 4 0 0 a = gi s (4 - k) k n (a + k)) (fun i _ => (4 - intOf i).toNat)
  case atStart => exact ⟨0, 0, rfl, rfl, by omega, by omega, by decide, rfl⟩
  case round =>
    obtain ⟨k, n, rfl, rfl, hk, hn0, hn1', hv'⟩ := hrel
    have hv := Lib.hid hv'
    clear hv'
    by_cases h4 : k = 4
    · subst h4
      clear hn1'
      go_wp2
      go_ret3
      exact ⟨ret_get (hv.out.trans gi_zero), rfl⟩
    · by_cases he : s.size ≤ a + k
      · have hg := Lib.hid (hv.out.trans (show gi s (4 - k) k n (a + k) = (0, 0, 242) by obtain ⟨f, hf⟩ : ∃ f, 4 - k = f + 1 := ⟨3 - k, by omega⟩; rw [hf]; exact gi_end he))
        clear hn1'
        go_wp2
        go_ret3
        exact ⟨ret_get hg.out, rfl⟩
      · have hn1 := Lib.hid hn1'
        clear hn1'
        obtain rfl | rfl | rfl | rfl : k = 0 ∨ k = 1 ∨ k = 2 ∨ k = 3 := by omega
        · obtain ⟨b, hB⟩ : ∃ b, bt s (a) = b := ⟨_, rfl⟩
          have hb0 : 0 ≤ b := by rw [← hB]; exact bt_nonneg s _
          have hb1 : b ≤ 255 := by rw [← hB]; exact bt_le s _
          obtain ⟨c, hc⟩ : ∃ c, c = b % 128 := ⟨_, rfl⟩
          have hc0 : 0 ≤ c := by omega
          have hc1 : c < 128 := by omega
          have hn2 : n < 1 := by have := hn1.out; simpa using this
          obtain ⟨m, hm⟩ : ∃ m, m = n + c := ⟨_, rfl⟩
          have hm0 : 0 ≤ m := by omega
          have hm1 : m < 128 := by omega
          have hand : bits .and .i64 b 127 = c := by rw [and_127 hb0 (by omega)]; exact hc.symm
          have hor : bits .or .i64 n (c) = m := by
            rw [hm, show c = 2 ^ 0 * c from by omega]
            exact or_add 0 hn0 (by simpa using hn2) hc0 (by omega)
          have Hc := Lib.hid hc
          have Hm := Lib.hid hm
          clear hc hm
          by_cases hl : b < 128
          · have Hcb := Lib.hid (show c = b by have := Hc.out; omega)
            by_cases hz : 0 < 0 ∧ b = 0
            · have hbad := Lib.hid (hv.out.trans (gi_long (f := 3 - 0) (k := 0) (n := n) he (by rw [show bt s (a + 0) = b from hB]; exact hl) (by rw [show bt s (a + 0) = b from hB]; exact hz)))
              have Hz := Lib.hid hz
              clear hz
              exfalso
              have := Hz.out
              omega
            · have hgo := Lib.hid (hv.out.trans (gi_last (f := 3 - 0) (k := 0) (n := n) he (by rw [show bt s (a + 0) = b from hB]; exact hl) (by rw [show bt s (a + 0) = b from hB]; exact hz)))
              have Hz := Lib.hid hz
              clear hz
              have hsz : Hid (sz m = 0 + 1) := Lib.hid (by have := Hm.out; have := Hcb.out; have := Hz.out; exact sz_exact (k := 0) hm0 (by simp; omega) (by first | omega | (simp; done) | (simp; omega)) (by omega))
              have hne : (sz m != 1) = false := by rw [hsz.out]; rfl
              go_wp2_with fail
              refine (size_any m _).mono ?_
              rintro e w' ⟨rfl, rfl⟩
              go_wp2
              go_ret3
              exact ⟨ret_get (by rw [hgo.out, show bt s (a + 0) = b from hB, Hm.out, Hcb.out]; simp), rfl⟩
          · have hgo := Lib.hid (hv.out.trans (gi_more (f := 3 - 0) (k := 0) (n := n) he (by rw [show bt s (a + 0) = b from hB]; omega)))
            go_wp2
            go_round
            case rel => exact ⟨0 + 1, m, by go_num, rfl, by omega, hm0, by simpa using hm1, by rw [hgo.out, show bt s (a + 0) = b from hB, ← Hc.out, Hm.out]; simp⟩
            case measure => first | (simp [intOf]; done) | (simp [intOf]; omega)
        · obtain ⟨b, hB⟩ : ∃ b, bt s (a + 1) = b := ⟨_, rfl⟩
          have hb0 : 0 ≤ b := by rw [← hB]; exact bt_nonneg s _
          have hb1 : b ≤ 255 := by rw [← hB]; exact bt_le s _
          obtain ⟨c, hc⟩ : ∃ c, c = b % 128 := ⟨_, rfl⟩
          have hc0 : 0 ≤ c := by omega
          have hc1 : c < 128 := by omega
          have hn2 : n < 128 := by have := hn1.out; simpa using this
          obtain ⟨m, hm⟩ : ∃ m, m = n + c * 128 := ⟨_, rfl⟩
          have hm0 : 0 ≤ m := by omega
          have hm1 : m < 16384 := by omega
          have hand : bits .and .i64 b 127 = c := by rw [and_127 hb0 (by omega)]; exact hc.symm
          have hor : bits .or .i64 n (c * 128) = m := by
            rw [hm, show c * 128 = 2 ^ 7 * c from by omega]
            exact or_add 7 hn0 (by simpa using hn2) hc0 (by omega)
          have Hc := Lib.hid hc
          have Hm := Lib.hid hm
          clear hc hm
          by_cases hl : b < 128
          · have Hcb := Lib.hid (show c = b by have := Hc.out; omega)
            by_cases hz : 0 < 1 ∧ b = 0
            · have hbad := Lib.hid (hv.out.trans (gi_long (f := 3 - 1) (k := 1) (n := n) he (by rw [show bt s (a + 1) = b from hB]; exact hl) (by rw [show bt s (a + 1) = b from hB]; exact hz)))
              have Hz := Lib.hid hz
              clear hz
              have hsz : Hid (sz m ≠ 1 + 1) := Lib.hid (by have := Hm.out; have := Hcb.out; have := Hz.out; have := sz_small (n := m) (k := 1) hm0 (by simp; omega) (by omega); omega)
              have hne : (sz m != 2) = true := by have := hsz.out; simpa using this
              go_wp2_with fail
              refine (size_any m _).mono ?_
              rintro e w' ⟨rfl, rfl⟩
              go_wp2
              go_ret3
              exact ⟨ret_get hbad.out, rfl⟩
            · have hgo := Lib.hid (hv.out.trans (gi_last (f := 3 - 1) (k := 1) (n := n) he (by rw [show bt s (a + 1) = b from hB]; exact hl) (by rw [show bt s (a + 1) = b from hB]; exact hz)))
              have Hz := Lib.hid hz
              clear hz
              have hsz : Hid (sz m = 1 + 1) := Lib.hid (by have := Hm.out; have := Hcb.out; have := Hz.out; exact sz_exact (k := 1) hm0 (by simp; omega) (by first | omega | (simp; done) | (simp; omega)) (by omega))
              have hne : (sz m != 2) = false := by rw [hsz.out]; rfl
              go_wp2_with fail
              refine (size_any m _).mono ?_
              rintro e w' ⟨rfl, rfl⟩
              go_wp2
              go_ret3
              exact ⟨ret_get (by rw [hgo.out, show bt s (a + 1) = b from hB, Hm.out, Hcb.out]; simp), rfl⟩
          · have hgo := Lib.hid (hv.out.trans (gi_more (f := 3 - 1) (k := 1) (n := n) he (by rw [show bt s (a + 1) = b from hB]; omega)))
            go_wp2
            go_round
            case rel => exact ⟨1 + 1, m, by go_num, rfl, by omega, hm0, by simpa using hm1, by rw [hgo.out, show bt s (a + 1) = b from hB, ← Hc.out, Hm.out]; simp⟩
            case measure => first | (simp [intOf]; done) | (simp [intOf]; omega)
        · obtain ⟨b, hB⟩ : ∃ b, bt s (a + 2) = b := ⟨_, rfl⟩
          have hb0 : 0 ≤ b := by rw [← hB]; exact bt_nonneg s _
          have hb1 : b ≤ 255 := by rw [← hB]; exact bt_le s _
          obtain ⟨c, hc⟩ : ∃ c, c = b % 128 := ⟨_, rfl⟩
          have hc0 : 0 ≤ c := by omega
          have hc1 : c < 128 := by omega
          have hn2 : n < 16384 := by have := hn1.out; simpa using this
          obtain ⟨m, hm⟩ : ∃ m, m = n + c * 16384 := ⟨_, rfl⟩
          have hm0 : 0 ≤ m := by omega
          have hm1 : m < 2097152 := by omega
          have hand : bits .and .i64 b 127 = c := by rw [and_127 hb0 (by omega)]; exact hc.symm
          have hor : bits .or .i64 n (c * 16384) = m := by
            rw [hm, show c * 16384 = 2 ^ 14 * c from by omega]
            exact or_add 14 hn0 (by simpa using hn2) hc0 (by omega)
          have Hc := Lib.hid hc
          have Hm := Lib.hid hm
          clear hc hm
          by_cases hl : b < 128
          · have Hcb := Lib.hid (show c = b by have := Hc.out; omega)
            by_cases hz : 0 < 2 ∧ b = 0
            · have hbad := Lib.hid (hv.out.trans (gi_long (f := 3 - 2) (k := 2) (n := n) he (by rw [show bt s (a + 2) = b from hB]; exact hl) (by rw [show bt s (a + 2) = b from hB]; exact hz)))
              have Hz := Lib.hid hz
              clear hz
              have hsz : Hid (sz m ≠ 2 + 1) := Lib.hid (by have := Hm.out; have := Hcb.out; have := Hz.out; have := sz_small (n := m) (k := 2) hm0 (by simp; omega) (by omega); omega)
              have hne : (sz m != 3) = true := by have := hsz.out; simpa using this
              go_wp2_with fail
              refine (size_any m _).mono ?_
              rintro e w' ⟨rfl, rfl⟩
              go_wp2
              go_ret3
              exact ⟨ret_get hbad.out, rfl⟩
            · have hgo := Lib.hid (hv.out.trans (gi_last (f := 3 - 2) (k := 2) (n := n) he (by rw [show bt s (a + 2) = b from hB]; exact hl) (by rw [show bt s (a + 2) = b from hB]; exact hz)))
              have Hz := Lib.hid hz
              clear hz
              have hsz : Hid (sz m = 2 + 1) := Lib.hid (by have := Hm.out; have := Hcb.out; have := Hz.out; exact sz_exact (k := 2) hm0 (by simp; omega) (by first | omega | (simp; done) | (simp; omega)) (by omega))
              have hne : (sz m != 3) = false := by rw [hsz.out]; rfl
              go_wp2_with fail
              refine (size_any m _).mono ?_
              rintro e w' ⟨rfl, rfl⟩
              go_wp2
              go_ret3
              exact ⟨ret_get (by rw [hgo.out, show bt s (a + 2) = b from hB, Hm.out, Hcb.out]; simp), rfl⟩
          · have hgo := Lib.hid (hv.out.trans (gi_more (f := 3 - 2) (k := 2) (n := n) he (by rw [show bt s (a + 2) = b from hB]; omega)))
            go_wp2
            go_round
            case rel => exact ⟨2 + 1, m, by go_num, rfl, by omega, hm0, by simpa using hm1, by rw [hgo.out, show bt s (a + 2) = b from hB, ← Hc.out, Hm.out]; simp⟩
            case measure => first | (simp [intOf]; done) | (simp [intOf]; omega)
        · obtain ⟨b, hB⟩ : ∃ b, bt s (a + 3) = b := ⟨_, rfl⟩
          have hb0 : 0 ≤ b := by rw [← hB]; exact bt_nonneg s _
          have hb1 : b ≤ 255 := by rw [← hB]; exact bt_le s _
          obtain ⟨c, hc⟩ : ∃ c, c = b % 128 := ⟨_, rfl⟩
          have hc0 : 0 ≤ c := by omega
          have hc1 : c < 128 := by omega
          have hn2 : n < 2097152 := by have := hn1.out; simpa using this
          obtain ⟨m, hm⟩ : ∃ m, m = n + c * 2097152 := ⟨_, rfl⟩
          have hm0 : 0 ≤ m := by omega
          have hm1 : m < 268435456 := by omega
          have hand : bits .and .i64 b 127 = c := by rw [and_127 hb0 (by omega)]; exact hc.symm
          have hor : bits .or .i64 n (c * 2097152) = m := by
            rw [hm, show c * 2097152 = 2 ^ 21 * c from by omega]
            exact or_add 21 hn0 (by simpa using hn2) hc0 (by omega)
          have Hc := Lib.hid hc
          have Hm := Lib.hid hm
          clear hc hm
          by_cases hl : b < 128
          · have Hcb := Lib.hid (show c = b by have := Hc.out; omega)
            by_cases hz : 0 < 3 ∧ b = 0
            · have hbad := Lib.hid (hv.out.trans (gi_long (f := 3 - 3) (k := 3) (n := n) he (by rw [show bt s (a + 3) = b from hB]; exact hl) (by rw [show bt s (a + 3) = b from hB]; exact hz)))
              have Hz := Lib.hid hz
              clear hz
              have hsz : Hid (sz m ≠ 3 + 1) := Lib.hid (by have := Hm.out; have := Hcb.out; have := Hz.out; have := sz_small (n := m) (k := 3) hm0 (by simp; omega) (by omega); omega)
              have hne : (sz m != 4) = true := by have := hsz.out; simpa using this
              go_wp2_with fail
              refine (size_any m _).mono ?_
              rintro e w' ⟨rfl, rfl⟩
              go_wp2
              go_ret3
              exact ⟨ret_get hbad.out, rfl⟩
            · have hgo := Lib.hid (hv.out.trans (gi_last (f := 3 - 3) (k := 3) (n := n) he (by rw [show bt s (a + 3) = b from hB]; exact hl) (by rw [show bt s (a + 3) = b from hB]; exact hz)))
              have Hz := Lib.hid hz
              clear hz
              have hsz : Hid (sz m = 3 + 1) := Lib.hid (by have := Hm.out; have := Hcb.out; have := Hz.out; exact sz_exact (k := 3) hm0 (by simp; omega) (by first | omega | (simp; done) | (simp; omega)) (by omega))
              have hne : (sz m != 4) = false := by rw [hsz.out]; rfl
              go_wp2_with fail
              refine (size_any m _).mono ?_
              rintro e w' ⟨rfl, rfl⟩
              go_wp2
              go_ret3
              exact ⟨ret_get (by rw [hgo.out, show bt s (a + 3) = b from hB, Hm.out, Hcb.out]; simp), rfl⟩
          · have hgo := Lib.hid (hv.out.trans (gi_more (f := 3 - 3) (k := 3) (n := n) he (by rw [show bt s (a + 3) = b from hB]; omega)))
            go_wp2
            go_round
            case rel => exact ⟨3 + 1, m, by go_num, rfl, by omega, hm0, by simpa using hm1, by rw [hgo.out, show bt s (a + 3) = b from hB, ← Hc.out, Hm.out]; simp⟩
            case measure => first | (simp [intOf]; done) | (simp [intOf]; omega)

theorem get_all (s : ByteArray) (at_ : Int) (w : World) (hs : s.size ≤ 140737488351232) (h0 : -9223372036854775808 ≤ at_) (h1 : at_ ≤ 9223372036854775807) :
    Calls Tryd.prog 25 #[.string s, .int .i64 at_] w fun e w' => e = .returned (.tuple #[.int .i64 (getV s at_).1, .int .i64 (getV s at_).2.1, .int .u8 (getV s at_).2.2]) ∧ w = w' := by
  by_cases hb : at_ < 0 ∨ (s.size : Int) < at_
  · have hg := Lib.hid (getV_bad hb)
    go_enter Tryd.func25, Tryd.ntmps25
    go_wp2
    all_goals go_ret3
    all_goals exact ⟨ret_get hg.out, rfl⟩
  · obtain ⟨a, rfl⟩ := Int.eq_ofNat_of_zero_le (show 0 ≤ at_ by omega)
    rw [getV_ok (show a ≤ s.size by omega)]
    exact get_in s a w hs (by omega)

set_option maxHeartbeats 1000000 in
theorem refget_in (s : ByteArray) (a : Nat) (w : World) (hs : s.size ≤ 140737488351232) (ha : a ≤ s.size) :
    Calls Tryd.prog 28 #[.string s, .int .i64 a] w fun e w' => e = .returned (.tuple #[.int .i64 (gi s 4 0 0 a).1, .int .i64 (gi s 4 0 0 a).2.1, .int .i64 (gi s 4 0 0 a).2.2]) ∧ w = w' := by
  have hbt := get_bt s
  go_enter Tryd.func28, Tryd.ntmps28
  go_wp2
  go_loop [9, 7, 8] (fun i v q => ∃ (k : Nat) (n : Int), i = .int .i64 k ∧ v = .int .i64 n ∧ q = .int .i64 (128 ^ k) ∧ k ≤ 4 ∧ 0 ≤ n ∧ n < 128 ^ k ∧ gi s 4 0 0 a = gi s (4 - k) k n (a + k)) (fun i _ _ => (4 - intOf i).toNat)
  case atStart => exact ⟨0, 0, rfl, rfl, rfl, by omega, by omega, by decide, rfl⟩
  case round =>
    obtain ⟨k, n, rfl, rfl, rfl, hk, hn0, hn1', hv'⟩ := hrel
    have hv := Lib.hid hv'
    clear hv'
    by_cases h4 : k = 4
    · subst h4
      clear hn1'
      go_wp2
      go_ret3
      exact ⟨ret_get (hv.out.trans gi_zero), rfl⟩
    · by_cases he : s.size ≤ a + k
      · have hg := Lib.hid (hv.out.trans (show gi s (4 - k) k n (a + k) = (0, 0, 242) by obtain ⟨f, hf⟩ : ∃ f, 4 - k = f + 1 := ⟨3 - k, by omega⟩; rw [hf]; exact gi_end he))
        clear hn1'
        go_wp2
        go_ret3
        exact ⟨ret_get hg.out, rfl⟩
      · have hn1 := Lib.hid hn1'
        clear hn1'
        obtain rfl | rfl | rfl | rfl : k = 0 ∨ k = 1 ∨ k = 2 ∨ k = 3 := by omega
        · obtain ⟨b, hB⟩ : ∃ b, bt s (a) = b := ⟨_, rfl⟩
          have hb0 : 0 ≤ b := by rw [← hB]; exact bt_nonneg s _
          have hb1 : b ≤ 255 := by rw [← hB]; exact bt_le s _
          obtain ⟨c, hc⟩ : ∃ c, b % 128 = c := ⟨_, rfl⟩
          have hc0 : 0 ≤ c := by omega
          have hc1 : c < 128 := by omega
          have hn2 : n < 1 := by have := hn1.out; simpa using this
          have hm0 : 0 ≤ n + c := by omega
          have hm1 : n + c < 128 := by omega
          have Hc := Lib.hid hc
          by_cases hl : b < 128
          · have Hcb := Lib.hid (show c = b by omega)
            by_cases hz : 0 < 0 ∧ b = 0
            · have Hz := Lib.hid hz
              clear hz
              have hbad := Lib.hid (hv.out.trans (gi_long (f := 3 - 0) (k := 0) (n := n) he (by rw [show bt s (a + 0) = b from hB]; exact hl) (by rw [show bt s (a + 0) = b from hB]; exact Hz.out)))
              exfalso
              have := Hz.out
              omega
            · have Hz := Lib.hid hz
              clear hz
              have hgo := Lib.hid (hv.out.trans (gi_last (f := 3 - 0) (k := 0) (n := n) he (by rw [show bt s (a + 0) = b from hB]; exact hl) (by rw [show bt s (a + 0) = b from hB]; exact Hz.out)))
              have hge : 1 ≤ sz (n + c) := by have := Hcb.out; have := Hz.out; have := sz_exact (n := n + c) (k := 0) hm0 (by simp; omega) (by first | omega | (simp; done) | (simp; omega)) (by omega); omega
              go_wp2_with fail
              refine (refsize_any _ _).mono ?_
              rintro e w' ⟨rfl, rfl⟩
              go_wp2
              go_ret3
              exact ⟨ret_get (by rw [hgo.out, show bt s (a + 0) = b from hB, Hcb.out]; simp), rfl⟩
          · have hgo := Lib.hid (hv.out.trans (gi_more (f := 3 - 0) (k := 0) (n := n) he (by rw [show bt s (a + 0) = b from hB]; omega)))
            go_wp2
            go_round
            case rel => exact ⟨0 + 1, n + c, by go_num, rfl, by first | rfl | (simp; done), by omega, hm0, by simpa using hm1, by rw [hgo.out, show bt s (a + 0) = b from hB, Hc.out]; simp⟩
            case measure => first | (simp [intOf]; done) | (simp [intOf]; omega)
        · obtain ⟨b, hB⟩ : ∃ b, bt s (a + 1) = b := ⟨_, rfl⟩
          have hb0 : 0 ≤ b := by rw [← hB]; exact bt_nonneg s _
          have hb1 : b ≤ 255 := by rw [← hB]; exact bt_le s _
          obtain ⟨c, hc⟩ : ∃ c, b % 128 = c := ⟨_, rfl⟩
          have hc0 : 0 ≤ c := by omega
          have hc1 : c < 128 := by omega
          have hn2 : n < 128 := by have := hn1.out; simpa using this
          have hm0 : 0 ≤ n + c * 128 := by omega
          have hm1 : n + c * 128 < 16384 := by omega
          have Hc := Lib.hid hc
          by_cases hl : b < 128
          · have Hcb := Lib.hid (show c = b by omega)
            by_cases hz : 0 < 1 ∧ b = 0
            · have Hz := Lib.hid hz
              clear hz
              have hbad := Lib.hid (hv.out.trans (gi_long (f := 3 - 1) (k := 1) (n := n) he (by rw [show bt s (a + 1) = b from hB]; exact hl) (by rw [show bt s (a + 1) = b from hB]; exact Hz.out)))
              have hlt : sz (n + c * 128) < 2 := by have := Hcb.out; have := Hz.out; have := sz_small (n := n + c * 128) (k := 1) hm0 (by simp; omega) (by omega); omega
              go_wp2_with fail
              refine (refsize_any _ _).mono ?_
              rintro e w' ⟨rfl, rfl⟩
              go_wp2
              go_ret3
              exact ⟨ret_get hbad.out, rfl⟩
            · have Hz := Lib.hid hz
              clear hz
              have hgo := Lib.hid (hv.out.trans (gi_last (f := 3 - 1) (k := 1) (n := n) he (by rw [show bt s (a + 1) = b from hB]; exact hl) (by rw [show bt s (a + 1) = b from hB]; exact Hz.out)))
              have hge : 2 ≤ sz (n + c * 128) := by have := Hcb.out; have := Hz.out; have := sz_exact (n := n + c * 128) (k := 1) hm0 (by simp; omega) (by first | omega | (simp; done) | (simp; omega)) (by omega); omega
              go_wp2_with fail
              refine (refsize_any _ _).mono ?_
              rintro e w' ⟨rfl, rfl⟩
              go_wp2
              go_ret3
              exact ⟨ret_get (by rw [hgo.out, show bt s (a + 1) = b from hB, Hcb.out]; simp), rfl⟩
          · have hgo := Lib.hid (hv.out.trans (gi_more (f := 3 - 1) (k := 1) (n := n) he (by rw [show bt s (a + 1) = b from hB]; omega)))
            go_wp2
            go_round
            case rel => exact ⟨1 + 1, n + c * 128, by go_num, rfl, by first | rfl | (simp; done), by omega, hm0, by simpa using hm1, by rw [hgo.out, show bt s (a + 1) = b from hB, Hc.out]; simp⟩
            case measure => first | (simp [intOf]; done) | (simp [intOf]; omega)
        · obtain ⟨b, hB⟩ : ∃ b, bt s (a + 2) = b := ⟨_, rfl⟩
          have hb0 : 0 ≤ b := by rw [← hB]; exact bt_nonneg s _
          have hb1 : b ≤ 255 := by rw [← hB]; exact bt_le s _
          obtain ⟨c, hc⟩ : ∃ c, b % 128 = c := ⟨_, rfl⟩
          have hc0 : 0 ≤ c := by omega
          have hc1 : c < 128 := by omega
          have hn2 : n < 16384 := by have := hn1.out; simpa using this
          have hm0 : 0 ≤ n + c * 16384 := by omega
          have hm1 : n + c * 16384 < 2097152 := by omega
          have Hc := Lib.hid hc
          by_cases hl : b < 128
          · have Hcb := Lib.hid (show c = b by omega)
            by_cases hz : 0 < 2 ∧ b = 0
            · have Hz := Lib.hid hz
              clear hz
              have hbad := Lib.hid (hv.out.trans (gi_long (f := 3 - 2) (k := 2) (n := n) he (by rw [show bt s (a + 2) = b from hB]; exact hl) (by rw [show bt s (a + 2) = b from hB]; exact Hz.out)))
              have hlt : sz (n + c * 16384) < 3 := by have := Hcb.out; have := Hz.out; have := sz_small (n := n + c * 16384) (k := 2) hm0 (by simp; omega) (by omega); omega
              go_wp2_with fail
              refine (refsize_any _ _).mono ?_
              rintro e w' ⟨rfl, rfl⟩
              go_wp2
              go_ret3
              exact ⟨ret_get hbad.out, rfl⟩
            · have Hz := Lib.hid hz
              clear hz
              have hgo := Lib.hid (hv.out.trans (gi_last (f := 3 - 2) (k := 2) (n := n) he (by rw [show bt s (a + 2) = b from hB]; exact hl) (by rw [show bt s (a + 2) = b from hB]; exact Hz.out)))
              have hge : 3 ≤ sz (n + c * 16384) := by have := Hcb.out; have := Hz.out; have := sz_exact (n := n + c * 16384) (k := 2) hm0 (by simp; omega) (by first | omega | (simp; done) | (simp; omega)) (by omega); omega
              go_wp2_with fail
              refine (refsize_any _ _).mono ?_
              rintro e w' ⟨rfl, rfl⟩
              go_wp2
              go_ret3
              exact ⟨ret_get (by rw [hgo.out, show bt s (a + 2) = b from hB, Hcb.out]; simp), rfl⟩
          · have hgo := Lib.hid (hv.out.trans (gi_more (f := 3 - 2) (k := 2) (n := n) he (by rw [show bt s (a + 2) = b from hB]; omega)))
            go_wp2
            go_round
            case rel => exact ⟨2 + 1, n + c * 16384, by go_num, rfl, by first | rfl | (simp; done), by omega, hm0, by simpa using hm1, by rw [hgo.out, show bt s (a + 2) = b from hB, Hc.out]; simp⟩
            case measure => first | (simp [intOf]; done) | (simp [intOf]; omega)
        · obtain ⟨b, hB⟩ : ∃ b, bt s (a + 3) = b := ⟨_, rfl⟩
          have hb0 : 0 ≤ b := by rw [← hB]; exact bt_nonneg s _
          have hb1 : b ≤ 255 := by rw [← hB]; exact bt_le s _
          obtain ⟨c, hc⟩ : ∃ c, b % 128 = c := ⟨_, rfl⟩
          have hc0 : 0 ≤ c := by omega
          have hc1 : c < 128 := by omega
          have hn2 : n < 2097152 := by have := hn1.out; simpa using this
          have hm0 : 0 ≤ n + c * 2097152 := by omega
          have hm1 : n + c * 2097152 < 268435456 := by omega
          have Hc := Lib.hid hc
          by_cases hl : b < 128
          · have Hcb := Lib.hid (show c = b by omega)
            by_cases hz : 0 < 3 ∧ b = 0
            · have Hz := Lib.hid hz
              clear hz
              have hbad := Lib.hid (hv.out.trans (gi_long (f := 3 - 3) (k := 3) (n := n) he (by rw [show bt s (a + 3) = b from hB]; exact hl) (by rw [show bt s (a + 3) = b from hB]; exact Hz.out)))
              have hlt : sz (n + c * 2097152) < 4 := by have := Hcb.out; have := Hz.out; have := sz_small (n := n + c * 2097152) (k := 3) hm0 (by simp; omega) (by omega); omega
              go_wp2_with fail
              refine (refsize_any _ _).mono ?_
              rintro e w' ⟨rfl, rfl⟩
              go_wp2
              go_ret3
              exact ⟨ret_get hbad.out, rfl⟩
            · have Hz := Lib.hid hz
              clear hz
              have hgo := Lib.hid (hv.out.trans (gi_last (f := 3 - 3) (k := 3) (n := n) he (by rw [show bt s (a + 3) = b from hB]; exact hl) (by rw [show bt s (a + 3) = b from hB]; exact Hz.out)))
              have hge : 4 ≤ sz (n + c * 2097152) := by have := Hcb.out; have := Hz.out; have := sz_exact (n := n + c * 2097152) (k := 3) hm0 (by simp; omega) (by first | omega | (simp; done) | (simp; omega)) (by omega); omega
              go_wp2_with fail
              refine (refsize_any _ _).mono ?_
              rintro e w' ⟨rfl, rfl⟩
              go_wp2
              go_ret3
              exact ⟨ret_get (by rw [hgo.out, show bt s (a + 3) = b from hB, Hcb.out]; simp), rfl⟩
          · have hgo := Lib.hid (hv.out.trans (gi_more (f := 3 - 3) (k := 3) (n := n) he (by rw [show bt s (a + 3) = b from hB]; omega)))
            go_wp2
            go_round
            case rel => exact ⟨3 + 1, n + c * 2097152, by go_num, rfl, by first | rfl | (simp; done), by omega, hm0, by simpa using hm1, by rw [hgo.out, show bt s (a + 3) = b from hB, Hc.out]; simp⟩
            case measure => first | (simp [intOf]; done) | (simp [intOf]; omega)

theorem refget_all (s : ByteArray) (at_ : Int) (w : World) (hs : s.size ≤ 140737488351232) (h0 : -9223372036854775808 ≤ at_) (h1 : at_ ≤ 9223372036854775807) :
    Calls Tryd.prog 28 #[.string s, .int .i64 at_] w fun e w' => e = .returned (.tuple #[.int .i64 (getV s at_).1, .int .i64 (getV s at_).2.1, .int .i64 (getV s at_).2.2]) ∧ w = w' := by
  by_cases hb : at_ < 0 ∨ (s.size : Int) < at_
  · have hg := Lib.hid (getV_bad hb)
    go_enter Tryd.func28, Tryd.ntmps28
    go_wp2
    all_goals go_ret3
    all_goals exact ⟨ret_get hg.out, rfl⟩
  · obtain ⟨a, rfl⟩ := Int.eq_ofNat_of_zero_le (show 0 ≤ at_ by omega)
    rw [getV_ok (show a ≤ s.size by omega)]
    exact refget_in s a w hs (by omega)
end Go.Proofs.YtifbkfkieppacaaDoor
