/- The walks of both Fixed functions and of both GetFixed functions. -/
import Derived.Test.YtifbkfkieppacaaDoorRows
import Derived.Test.YtifbkfkieppacaaDoorFixPlain
import Derived.WalkLawsBesides
import Derived.WalkSpells
import Derived.Handy
namespace Go.Proofs.YtifbkfkieppacaaDoor
open Go.RowKit Pl
open Go.PlainAid (bt bt_nonneg bt_le get_bt bt_end)
theorem u8_info' : (Tryd.prog.info? 5).map (fun i => (i.zero, i.size, i.bytes)) = some (some (.int .u8 0), 1, 1) := by kernel_rfl
theorem ret_getf {k : IntKind} {p : Int × Int × Int} {x y z : Int} (h : p = (x, y, z)) :
    Ending.returned (.tuple #[.int .i64 x, .int .i64 y, .int k z]) = .returned (.tuple #[.int .i64 p.1, .int .i64 p.2.1, .int k p.2.2]) := by rw [h]
theorem ret_fix {k : IntKind} {w n c : Int} {l : List UInt8} (h : fixC w n = c ∧ fixS w n = l) :
    Ending.returned (.tuple #[.string ⟨l.toArray⟩, .int k c]) = .returned (.tuple #[.string ⟨(fixS w n).toArray⟩, .int k (fixC w n)]) := by rw [h.1, h.2]

set_option maxRecDepth 100000 in
theorem fixed_1 (n : Int) (w : World) (h0 : 0 ≤ n) (h1 : n < 256) :
    Calls Tryd.prog 33 #[.int .i64 1, .int .i64 n] w fun e w' => e = .returned (.tuple #[.string ⟨(fb 1 n).toArray⟩, .int .u8 0]) ∧ Below w.heap.size w w' := by
  obtain ⟨i0, hi, hz0, hz1, hz2⟩ := info_parts u8_info'
  go_enter Tryd.func33, Tryd.ntmps33
  go_wp2
  go_loopw [7, 6] (fun i b wr => ∃ (r : Nat) (q : Int) (l : List UInt8), i = .int .i64 q ∧ r ≤ 1 ∧ q = r - 1 ∧ wr.ownsRow w.heap.size 5 1 b (1 - r) (cells8 l) ∧ l ++ fb r n = fb 1 n ∧ Below w.heap.size w wr)
    (fun i _ _ => (intOf i + 1).toNat)
  case atStart => exact ⟨1, _, [], rfl, by omega, by omega, World.ownsRow_nil _ _ _ _, rfl, Below.refl _ _⟩
  case round =>
    obtain ⟨r, q, l, rfl, hr, hq, hown, hv', hbel⟩ := hrel
    have hv := Lib.hid hv'
    clear hv'
    obtain rfl | rfl := (show r = 0 ∨ r = 1 by omega)
    · have hq0 : q = -1 := by omega
      clear hq
      subst hq0
      have hc := run_string_own (P := Tryd.prog) 49 9 5 w.heap.size _ _ l Tryd.underlying49 Tryd.underlying5 Tryd.underlying9 hown
      have hl := Lib.hid (show l = fb 1 n by have := hv.out; simpa [fb] using this)
      go_wp2
      go_ret2
      exact ⟨ret2 (val_str hl.out) rfl, hbel⟩
    · have hq0 : q = 0 := by omega
      clear hq
      subst hq0
      go_wp2_with (at_builtin; refine wpList_push (.tmp 28) (.tmp 34) 49 5 i0 (.int .u8 0) 1 rfl rfl Tryd.underlying49 hi hz0 hz1 hz2 rfl w.heap.size _ 0 (cells8 l) (.int .u8 (n)) rfl rfl hown hbel hbel.size rfl (by simp [maxLen]) (by omega) ?_; intro v' w1 hown1 hbel1 hs1 hn1)
      go_wp2
      go_roundw
      case rel => exact ⟨0, 0 - 1, l ++ [by8 (n)], by go_num, by omega, by omega, by rw [← cells8_snoc l (n) (n) (by omega)]; exact hown1, by rw [← hv.out]; simp [fb], hbel1⟩
      case measure => simp [intOf]
set_option maxRecDepth 100000 in
theorem fixed_2 (n : Int) (w : World) (h0 : 0 ≤ n) (h1 : n < 65536) :
    Calls Tryd.prog 33 #[.int .i64 2, .int .i64 n] w fun e w' => e = .returned (.tuple #[.string ⟨(fb 2 n).toArray⟩, .int .u8 0]) ∧ Below w.heap.size w w' := by
  obtain ⟨i0, hi, hz0, hz1, hz2⟩ := info_parts u8_info'
  go_enter Tryd.func33, Tryd.ntmps33
  go_wp2
  go_loopw [7, 6] (fun i b wr => ∃ (r : Nat) (q : Int) (l : List UInt8), i = .int .i64 q ∧ r ≤ 2 ∧ q = r - 1 ∧ wr.ownsRow w.heap.size 5 1 b (2 - r) (cells8 l) ∧ l ++ fb r n = fb 2 n ∧ Below w.heap.size w wr)
    (fun i _ _ => (intOf i + 1).toNat)
  case atStart => exact ⟨2, _, [], rfl, by omega, by omega, World.ownsRow_nil _ _ _ _, rfl, Below.refl _ _⟩
  case round =>
    obtain ⟨r, q, l, rfl, hr, hq, hown, hv', hbel⟩ := hrel
    have hv := Lib.hid hv'
    clear hv'
    obtain rfl | rfl | rfl := (show r = 0 ∨ r = 1 ∨ r = 2 by omega)
    · have hq0 : q = -1 := by omega
      clear hq
      subst hq0
      have hc := run_string_own (P := Tryd.prog) 49 9 5 w.heap.size _ _ l Tryd.underlying49 Tryd.underlying5 Tryd.underlying9 hown
      have hl := Lib.hid (show l = fb 2 n by have := hv.out; simpa [fb] using this)
      go_wp2
      go_ret2
      exact ⟨ret2 (val_str hl.out) rfl, hbel⟩
    · have hq0 : q = 0 := by omega
      clear hq
      subst hq0
      go_wp2_with (at_builtin; refine wpList_push (.tmp 28) (.tmp 34) 49 5 i0 (.int .u8 0) 1 rfl rfl Tryd.underlying49 hi hz0 hz1 hz2 rfl w.heap.size _ 1 (cells8 l) (.int .u8 ((n) % 256)) rfl rfl hown hbel hbel.size rfl (by simp [maxLen]) (by omega) ?_; intro v' w1 hown1 hbel1 hs1 hn1)
      go_wp2
      go_roundw
      case rel => exact ⟨0, 0 - 1, l ++ [by8 (n)], by go_num, by omega, by omega, by rw [← cells8_snoc l (n) ((n) % 256) rfl]; exact hown1, by rw [← hv.out]; simp [fb], hbel1⟩
      case measure => simp [intOf]
    · have hq0 : q = 1 := by omega
      clear hq
      subst hq0
      go_wp2_with (at_builtin; refine wpList_push (.tmp 28) (.tmp 34) 49 5 i0 (.int .u8 0) 1 rfl rfl Tryd.underlying49 hi hz0 hz1 hz2 rfl w.heap.size _ 0 (cells8 l) (.int .u8 (n / 256)) rfl rfl hown hbel hbel.size rfl (by simp [maxLen]) (by omega) ?_; intro v' w1 hown1 hbel1 hs1 hn1)
      go_wp2
      go_roundw
      case rel => exact ⟨1, 1 - 1, l ++ [by8 (n / 256)], by go_num, by omega, by omega, by rw [← cells8_snoc l (n / 256) (n / 256) (by omega)]; exact hown1, by rw [← hv.out]; simp [fb], hbel1⟩
      case measure => simp [intOf]
set_option maxRecDepth 100000 in
theorem fixed_4 (n : Int) (w : World) (h0 : 0 ≤ n) (h1 : n < 4294967296) :
    Calls Tryd.prog 33 #[.int .i64 4, .int .i64 n] w fun e w' => e = .returned (.tuple #[.string ⟨(fb 4 n).toArray⟩, .int .u8 0]) ∧ Below w.heap.size w w' := by
  obtain ⟨i0, hi, hz0, hz1, hz2⟩ := info_parts u8_info'
  go_enter Tryd.func33, Tryd.ntmps33
  go_wp2
  go_loopw [7, 6] (fun i b wr => ∃ (r : Nat) (q : Int) (l : List UInt8), i = .int .i64 q ∧ r ≤ 4 ∧ q = r - 1 ∧ wr.ownsRow w.heap.size 5 1 b (4 - r) (cells8 l) ∧ l ++ fb r n = fb 4 n ∧ Below w.heap.size w wr)
    (fun i _ _ => (intOf i + 1).toNat)
  case atStart => exact ⟨4, _, [], rfl, by omega, by omega, World.ownsRow_nil _ _ _ _, rfl, Below.refl _ _⟩
  case round =>
    obtain ⟨r, q, l, rfl, hr, hq, hown, hv', hbel⟩ := hrel
    have hv := Lib.hid hv'
    clear hv'
    obtain rfl | rfl | rfl | rfl | rfl := (show r = 0 ∨ r = 1 ∨ r = 2 ∨ r = 3 ∨ r = 4 by omega)
    · have hq0 : q = -1 := by omega
      clear hq
      subst hq0
      have hc := run_string_own (P := Tryd.prog) 49 9 5 w.heap.size _ _ l Tryd.underlying49 Tryd.underlying5 Tryd.underlying9 hown
      have hl := Lib.hid (show l = fb 4 n by have := hv.out; simpa [fb] using this)
      go_wp2
      go_ret2
      exact ⟨ret2 (val_str hl.out) rfl, hbel⟩
    · have hq0 : q = 0 := by omega
      clear hq
      subst hq0
      go_wp2_with (at_builtin; refine wpList_push (.tmp 28) (.tmp 34) 49 5 i0 (.int .u8 0) 1 rfl rfl Tryd.underlying49 hi hz0 hz1 hz2 rfl w.heap.size _ 3 (cells8 l) (.int .u8 ((n) % 256)) rfl rfl hown hbel hbel.size rfl (by simp [maxLen]) (by omega) ?_; intro v' w1 hown1 hbel1 hs1 hn1)
      go_wp2
      go_roundw
      case rel => exact ⟨0, 0 - 1, l ++ [by8 (n)], by go_num, by omega, by omega, by rw [← cells8_snoc l (n) ((n) % 256) rfl]; exact hown1, by rw [← hv.out]; simp [fb], hbel1⟩
      case measure => simp [intOf]
    · have hq0 : q = 1 := by omega
      clear hq
      subst hq0
      go_wp2_with (at_builtin; refine wpList_push (.tmp 28) (.tmp 34) 49 5 i0 (.int .u8 0) 1 rfl rfl Tryd.underlying49 hi hz0 hz1 hz2 rfl w.heap.size _ 2 (cells8 l) (.int .u8 ((n / 256) % 256)) rfl rfl hown hbel hbel.size rfl (by simp [maxLen]) (by omega) ?_; intro v' w1 hown1 hbel1 hs1 hn1)
      go_wp2
      go_roundw
      case rel => exact ⟨1, 1 - 1, l ++ [by8 (n / 256)], by go_num, by omega, by omega, by rw [← cells8_snoc l (n / 256) ((n / 256) % 256) rfl]; exact hown1, by rw [← hv.out]; simp [fb], hbel1⟩
      case measure => simp [intOf]
    · have hq0 : q = 2 := by omega
      clear hq
      subst hq0
      go_wp2_with (at_builtin; refine wpList_push (.tmp 28) (.tmp 34) 49 5 i0 (.int .u8 0) 1 rfl rfl Tryd.underlying49 hi hz0 hz1 hz2 rfl w.heap.size _ 1 (cells8 l) (.int .u8 ((n / 65536) % 256)) rfl rfl hown hbel hbel.size rfl (by simp [maxLen]) (by omega) ?_; intro v' w1 hown1 hbel1 hs1 hn1)
      go_wp2
      go_roundw
      case rel => exact ⟨2, 2 - 1, l ++ [by8 (n / 65536)], by go_num, by omega, by omega, by rw [← cells8_snoc l (n / 65536) ((n / 65536) % 256) rfl]; exact hown1, by rw [← hv.out]; simp [fb], hbel1⟩
      case measure => simp [intOf]
    · have hq0 : q = 3 := by omega
      clear hq
      subst hq0
      go_wp2_with (at_builtin; refine wpList_push (.tmp 28) (.tmp 34) 49 5 i0 (.int .u8 0) 1 rfl rfl Tryd.underlying49 hi hz0 hz1 hz2 rfl w.heap.size _ 0 (cells8 l) (.int .u8 (n / 16777216)) rfl rfl hown hbel hbel.size rfl (by simp [maxLen]) (by omega) ?_; intro v' w1 hown1 hbel1 hs1 hn1)
      go_wp2
      go_roundw
      case rel => exact ⟨3, 3 - 1, l ++ [by8 (n / 16777216)], by go_num, by omega, by omega, by rw [← cells8_snoc l (n / 16777216) (n / 16777216) (by omega)]; exact hown1, by rw [← hv.out]; simp [fb], hbel1⟩
      case measure => simp [intOf]

set_option maxRecDepth 100000 in
theorem fixed_all (d n : Int) (w : World) : Calls Tryd.prog 33 #[.int .i64 d, .int .i64 n] w fun e w' => e = .returned (.tuple #[.string ⟨(fixS d n).toArray⟩, .int .u8 (fixC d n)]) ∧ Below w.heap.size w w' := by
  by_cases hw : Wide d
  · by_cases hn : n < 0 ∨ 256 ^ d.toNat ≤ n
    · have hf := Lib.hid (fix_out hw hn)
      rcases hw with rfl | rfl | rfl
      all_goals
        simp at hn
        go_enter Tryd.func33, Tryd.ntmps33
        go_wp2
        all_goals go_ret2
        all_goals exact ⟨ret_fix (l := []) hf.out, Below.refl _ _⟩
    · have hf := fix_in (w := d) (n := n) hw (by omega) (by omega)
      rw [hf.1, hf.2]
      rcases hw with rfl | rfl | rfl
      · exact fixed_1 n w (by omega) (by simp at hn; omega)
      · exact fixed_2 n w (by omega) (by simp at hn; omega)
      · exact fixed_4 n w (by omega) (by simp at hn; omega)
  · have hf := Lib.hid (fix_bad (n := n) hw)
    have h1 : (d == 1) = false := by rw [beq_eq_false_iff_ne]; rintro rfl; exact hw (.inl rfl)
    have h2 : (d == 2) = false := by rw [beq_eq_false_iff_ne]; rintro rfl; exact hw (.inr (.inl rfl))
    have h4 : (d == 4) = false := by rw [beq_eq_false_iff_ne]; rintro rfl; exact hw (.inr (.inr rfl))
    clear hw
    go_enter Tryd.func33, Tryd.ntmps33
    go_wp2
    all_goals go_ret2
    all_goals exact ⟨ret_fix (l := []) hf.out, Below.refl _ _⟩

set_option maxRecDepth 100000 in
theorem reffixed_1 (n : Int) (w : World) (h0 : 0 ≤ n) (h1 : n < 256) :
    Calls Tryd.prog 41 #[.int .i64 1, .int .i64 n] w fun e w' => e = .returned (.tuple #[.string ⟨(fb 1 n).toArray⟩, .int .i64 0]) ∧ Below w.heap.size w w' := by
  have hone := fun W x => run_string_one (P := Tryd.prog) (w := W) 49 9 5 x Tryd.underlying49 Tryd.underlying5 Tryd.underlying9
  go_enter Tryd.func41, Tryd.ntmps41
  go_wp2
  go_loopw [1, 7, 8] (fun vm s i wr => ∃ (m : Int) (k : Nat) (l : List UInt8), vm = .int .i64 m ∧ i = .int .i64 k ∧ s = .string ⟨l.toArray⟩ ∧ k ≤ 1 ∧ 0 ≤ m ∧ m < 256 ∧ l.length ≤ 4 ∧ Hid (m = n / 256 ^ k ∧ l = fb k n) ∧ Below w.heap.size w wr)
    (fun _ _ i _ => (1 - intOf i).toNat)
  case atStart => exact ⟨n, 0, [], rfl, rfl, rfl, by omega, h0, h1, by simp, ⟨by simp, rfl⟩, Below.refl _ _⟩
  case round =>
    obtain ⟨m, k, l, rfl, rfl, rfl, hk, hm0, hm1, hl4, hv, hbel⟩ := hrel
    have hlen : l.length = k := by rw [hv.out.2, fb_length]
    by_cases hkw : k < 1
    · have hl3 : l.length + 1 ≤ 4 := by omega
      have Hl := Lib.hid hlen
      clear hlen
      go_wp2
      go_roundw
      case rel => exact ⟨m / 256, k + 1, by8 (m % 256) :: l, rfl, by go_num, str_cons l (by omega) (by omega), by omega, by omega, by omega, by simpa using hl3, ⟨fx_div hv.out.1, fx_cons hv.out.1 hv.out.2⟩, hbel.alloc hbel.size _⟩
      case measure => simp [intOf]; omega
    · have Hl := Lib.hid (show l = fb 1 n by rw [hv.out.2]; congr 1; omega)
      clear hlen
      go_wp2
      go_ret2
      exact ⟨ret2 (val_str Hl.out) rfl, hbel⟩

set_option maxRecDepth 100000 in
theorem reffixed_2 (n : Int) (w : World) (h0 : 0 ≤ n) (h1 : n < 65536) :
    Calls Tryd.prog 41 #[.int .i64 2, .int .i64 n] w fun e w' => e = .returned (.tuple #[.string ⟨(fb 2 n).toArray⟩, .int .i64 0]) ∧ Below w.heap.size w w' := by
  have hone := fun W x => run_string_one (P := Tryd.prog) (w := W) 49 9 5 x Tryd.underlying49 Tryd.underlying5 Tryd.underlying9
  go_enter Tryd.func41, Tryd.ntmps41
  go_wp2
  go_loopw [1, 7, 8] (fun vm s i wr => ∃ (m : Int) (k : Nat) (l : List UInt8), vm = .int .i64 m ∧ i = .int .i64 k ∧ s = .string ⟨l.toArray⟩ ∧ k ≤ 2 ∧ 0 ≤ m ∧ m < 65536 ∧ l.length ≤ 4 ∧ Hid (m = n / 256 ^ k ∧ l = fb k n) ∧ Below w.heap.size w wr)
    (fun _ _ i _ => (2 - intOf i).toNat)
  case atStart => exact ⟨n, 0, [], rfl, rfl, rfl, by omega, h0, h1, by simp, ⟨by simp, rfl⟩, Below.refl _ _⟩
  case round =>
    obtain ⟨m, k, l, rfl, rfl, rfl, hk, hm0, hm1, hl4, hv, hbel⟩ := hrel
    have hlen : l.length = k := by rw [hv.out.2, fb_length]
    by_cases hkw : k < 2
    · have hl3 : l.length + 1 ≤ 4 := by omega
      have Hl := Lib.hid hlen
      clear hlen
      go_wp2
      go_roundw
      case rel => exact ⟨m / 256, k + 1, by8 (m % 256) :: l, rfl, by go_num, str_cons l (by omega) (by omega), by omega, by omega, by omega, by simpa using hl3, ⟨fx_div hv.out.1, fx_cons hv.out.1 hv.out.2⟩, hbel.alloc hbel.size _⟩
      case measure => simp [intOf]; omega
    · have Hl := Lib.hid (show l = fb 2 n by rw [hv.out.2]; congr 1; omega)
      clear hlen
      go_wp2
      go_ret2
      exact ⟨ret2 (val_str Hl.out) rfl, hbel⟩

set_option maxRecDepth 100000 in
theorem reffixed_4 (n : Int) (w : World) (h0 : 0 ≤ n) (h1 : n < 4294967296) :
    Calls Tryd.prog 41 #[.int .i64 4, .int .i64 n] w fun e w' => e = .returned (.tuple #[.string ⟨(fb 4 n).toArray⟩, .int .i64 0]) ∧ Below w.heap.size w w' := by
  have hone := fun W x => run_string_one (P := Tryd.prog) (w := W) 49 9 5 x Tryd.underlying49 Tryd.underlying5 Tryd.underlying9
  go_enter Tryd.func41, Tryd.ntmps41
  go_wp2
  go_loopw [1, 7, 8] (fun vm s i wr => ∃ (m : Int) (k : Nat) (l : List UInt8), vm = .int .i64 m ∧ i = .int .i64 k ∧ s = .string ⟨l.toArray⟩ ∧ k ≤ 4 ∧ 0 ≤ m ∧ m < 4294967296 ∧ l.length ≤ 4 ∧ Hid (m = n / 256 ^ k ∧ l = fb k n) ∧ Below w.heap.size w wr)
    (fun _ _ i _ => (4 - intOf i).toNat)
  case atStart => exact ⟨n, 0, [], rfl, rfl, rfl, by omega, h0, h1, by simp, ⟨by simp, rfl⟩, Below.refl _ _⟩
  case round =>
    obtain ⟨m, k, l, rfl, rfl, rfl, hk, hm0, hm1, hl4, hv, hbel⟩ := hrel
    have hlen : l.length = k := by rw [hv.out.2, fb_length]
    by_cases hkw : k < 4
    · have hl3 : l.length + 1 ≤ 4 := by omega
      have Hl := Lib.hid hlen
      clear hlen
      go_wp2
      go_roundw
      case rel => exact ⟨m / 256, k + 1, by8 (m % 256) :: l, rfl, by go_num, str_cons l (by omega) (by omega), by omega, by omega, by omega, by simpa using hl3, ⟨fx_div hv.out.1, fx_cons hv.out.1 hv.out.2⟩, hbel.alloc hbel.size _⟩
      case measure => simp [intOf]; omega
    · have Hl := Lib.hid (show l = fb 4 n by rw [hv.out.2]; congr 1; omega)
      clear hlen
      go_wp2
      go_ret2
      exact ⟨ret2 (val_str Hl.out) rfl, hbel⟩

set_option maxRecDepth 100000 in
theorem reffixed_all (d n : Int) (w : World) : Calls Tryd.prog 41 #[.int .i64 d, .int .i64 n] w fun e w' => e = .returned (.tuple #[.string ⟨(fixS d n).toArray⟩, .int .i64 (fixC d n)]) ∧ Below w.heap.size w w' := by
  by_cases hw : Wide d
  · by_cases hn : n < 0 ∨ 256 ^ d.toNat ≤ n
    · have hf := Lib.hid (fix_out hw hn)
      rcases hw with rfl | rfl | rfl
      all_goals
        simp at hn
        go_enter Tryd.func41, Tryd.ntmps41
        go_wp2
        all_goals go_ret2
        all_goals exact ⟨ret_fix (l := []) hf.out, Below.refl _ _⟩
    · have hf := fix_in (w := d) (n := n) hw (by omega) (by omega)
      rw [hf.1, hf.2]
      rcases hw with rfl | rfl | rfl
      · exact reffixed_1 n w (by omega) (by simp at hn; omega)
      · exact reffixed_2 n w (by omega) (by simp at hn; omega)
      · exact reffixed_4 n w (by omega) (by simp at hn; omega)
  · have hf := Lib.hid (fix_bad (n := n) hw)
    have h1 : (d == 1) = false := by rw [beq_eq_false_iff_ne]; rintro rfl; exact hw (.inl rfl)
    have h2 : (d == 2) = false := by rw [beq_eq_false_iff_ne]; rintro rfl; exact hw (.inr (.inl rfl))
    have h4 : (d == 4) = false := by rw [beq_eq_false_iff_ne]; rintro rfl; exact hw (.inr (.inr rfl))
    clear hw
    go_enter Tryd.func41, Tryd.ntmps41
    go_wp2
    all_goals go_ret2
    all_goals exact ⟨ret_fix (l := []) hf.out, Below.refl _ _⟩
end Go.Proofs.YtifbkfkieppacaaDoor
