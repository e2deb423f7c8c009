/- The walks of both Put functions. -/
import Derived.Test.YtifbkfkieppacaaDoorVarSize
namespace Go.Proofs.YtifbkfkieppacaaDoor
open Go.RowKit Pl
theorem u8_info : (Tryd.prog.info? 5).map (fun i => (i.zero, i.size, i.bytes)) = some (some (.int .u8 0), 1, 1) := by kernel_rfl

set_option maxRecDepth 100000 in
theorem put_any (n : Int) (w : World) (h0 : 0 ≤ n) (h1 : n ≤ 268435455) :
    Calls Tryd.prog 17 #[.int .i64 n] w fun e w' => e = .returned (.tuple #[.string ⟨(enc n).toArray⟩, .int .u8 0]) ∧ Below w.heap.size w w' := by
  obtain ⟨i0, hi, hz0, hz1, hz2⟩ := info_parts u8_info
  have hsz := sz_pos h0 h1
  obtain ⟨z, hz⟩ : ∃ z, z = sz n := ⟨_, rfl⟩
  have he : Hid (enc n = vb n z.toNat) := by unfold enc; rw [hz]; exact Lib.hid rfl
  rw [← hz] at hsz
  go_enter Tryd.func17, Tryd.ntmps17
  go_wp2_with fail
  refine (size_any n _).mono ?_
  rintro e w' ⟨rfl, rfl⟩
  rw [← hz]
  have hz' := Lib.hid hz
  clear hz
  have hne : (z == 0) = false := by rw [beq_eq_false_iff_ne]; omega
  go_wp2
  go_loopw [13, 5] (fun i b wr => ∃ (k : Nat) (l : List UInt8), i = .int .i64 k ∧ (k : Int) ≤ z ∧ wr.ownsRow w.heap.size 5 1 b k (cells8 l) ∧ l ++ vb (n / 128 ^ k) (z.toNat - k) = enc n ∧ Below w.heap.size w wr)
    (fun i _ _ => (z - intOf i).toNat)
  case atStart => exact ⟨0, [], rfl, by omega, World.ownsRow_nil _ _ _ _, by simpa using he.out.symm, Below.refl _ _⟩
  case round =>
    obtain ⟨k, l, rfl, hk, hown, hv', hbel⟩ := hrel
    have hv := Lib.hid hv'
    clear hv'
    by_cases hkz : (k : Int) < z
    · obtain rfl | rfl | rfl | rfl : k = 0 ∨ k = 1 ∨ k = 2 ∨ k = 3 := by omega
      · obtain ⟨x, hx⟩ : ∃ x, x = (n) % 128 := ⟨_, rfl⟩
        have hx0 : 0 ≤ x := by omega
        have hx1 : x < 128 := by omega
        have ha : bits .and .i64 (n) 127 = x := by rw [and_127 (by omega) (by omega)]; exact hx.symm
        have ho : bits .or .u8 x 128 = x + 128 := or_128 hx0 hx1
        have Hx := Lib.hid hx
        clear hx
        by_cases hm : (0 : Int) + 1 < z
        · go_wp2_with (at_builtin; refine wpList_push (.tmp 28) (.tmp 30) 49 5 i0 (.int .u8 0) 1 rfl rfl Tryd.underlying49 hi hz0 hz1 hz2 rfl w.heap.size _ 0 (cells8 l) (.int .u8 (x + 128)) rfl rfl hown hbel hbel.size rfl (by simp [maxLen]) (by omega) ?_; intro v' w1 hown1 hbel1 hs1 hn1)
          go_wp2
          go_roundw
          case rel => exact ⟨0 + 1, l ++ [by8 (x + 128)], by go_num, by omega, by rw [← cells8_snoc l (x + 128) (x + 128) (by omega)]; exact hown1, vb_step hv.out (by rw [Hx.out]; simp) hm, hbel1⟩
          case measure => simp [intOf]; omega
        · go_wp2_with (at_builtin; refine wpList_push (.tmp 28) (.tmp 30) 49 5 i0 (.int .u8 0) 1 rfl rfl Tryd.underlying49 hi hz0 hz1 hz2 rfl w.heap.size _ 0 (cells8 l) (.int .u8 x) rfl rfl hown hbel hbel.size rfl (by simp [maxLen]) (by omega) ?_; intro v' w1 hown1 hbel1 hs1 hn1)
          go_wp2
          go_roundw
          case rel => exact ⟨0 + 1, l ++ [by8 x], by go_num, by omega, by rw [← cells8_snoc l x x (by omega)]; exact hown1, vb_stop hv.out (by rw [Hx.out]; simp) (by omega), hbel1⟩
          case measure => simp [intOf]; omega
      · obtain ⟨x, hx⟩ : ∃ x, x = (n / 128) % 128 := ⟨_, rfl⟩
        have hx0 : 0 ≤ x := by omega
        have hx1 : x < 128 := by omega
        have ha : bits .and .i64 (n / 128) 127 = x := by rw [and_127 (by omega) (by omega)]; exact hx.symm
        have ho : bits .or .u8 x 128 = x + 128 := or_128 hx0 hx1
        have Hx := Lib.hid hx
        clear hx
        by_cases hm : (1 : Int) + 1 < z
        · go_wp2_with (at_builtin; refine wpList_push (.tmp 28) (.tmp 30) 49 5 i0 (.int .u8 0) 1 rfl rfl Tryd.underlying49 hi hz0 hz1 hz2 rfl w.heap.size _ 1 (cells8 l) (.int .u8 (x + 128)) rfl rfl hown hbel hbel.size rfl (by simp [maxLen]) (by omega) ?_; intro v' w1 hown1 hbel1 hs1 hn1)
          go_wp2
          go_roundw
          case rel => exact ⟨1 + 1, l ++ [by8 (x + 128)], by go_num, by omega, by rw [← cells8_snoc l (x + 128) (x + 128) (by omega)]; exact hown1, vb_step hv.out (by rw [Hx.out]; simp) hm, hbel1⟩
          case measure => simp [intOf]; omega
        · go_wp2_with (at_builtin; refine wpList_push (.tmp 28) (.tmp 30) 49 5 i0 (.int .u8 0) 1 rfl rfl Tryd.underlying49 hi hz0 hz1 hz2 rfl w.heap.size _ 1 (cells8 l) (.int .u8 x) rfl rfl hown hbel hbel.size rfl (by simp [maxLen]) (by omega) ?_; intro v' w1 hown1 hbel1 hs1 hn1)
          go_wp2
          go_roundw
          case rel => exact ⟨1 + 1, l ++ [by8 x], by go_num, by omega, by rw [← cells8_snoc l x x (by omega)]; exact hown1, vb_stop hv.out (by rw [Hx.out]; simp) (by omega), hbel1⟩
          case measure => simp [intOf]; omega
      · obtain ⟨x, hx⟩ : ∃ x, x = (n / 16384) % 128 := ⟨_, rfl⟩
        have hx0 : 0 ≤ x := by omega
        have hx1 : x < 128 := by omega
        have ha : bits .and .i64 (n / 16384) 127 = x := by rw [and_127 (by omega) (by omega)]; exact hx.symm
        have ho : bits .or .u8 x 128 = x + 128 := or_128 hx0 hx1
        have Hx := Lib.hid hx
        clear hx
        by_cases hm : (2 : Int) + 1 < z
        · go_wp2_with (at_builtin; refine wpList_push (.tmp 28) (.tmp 30) 49 5 i0 (.int .u8 0) 1 rfl rfl Tryd.underlying49 hi hz0 hz1 hz2 rfl w.heap.size _ 2 (cells8 l) (.int .u8 (x + 128)) rfl rfl hown hbel hbel.size rfl (by simp [maxLen]) (by omega) ?_; intro v' w1 hown1 hbel1 hs1 hn1)
          go_wp2
          go_roundw
          case rel => exact ⟨2 + 1, l ++ [by8 (x + 128)], by go_num, by omega, by rw [← cells8_snoc l (x + 128) (x + 128) (by omega)]; exact hown1, vb_step hv.out (by rw [Hx.out]; simp) hm, hbel1⟩
          case measure => simp [intOf]; omega
        · go_wp2_with (at_builtin; refine wpList_push (.tmp 28) (.tmp 30) 49 5 i0 (.int .u8 0) 1 rfl rfl Tryd.underlying49 hi hz0 hz1 hz2 rfl w.heap.size _ 2 (cells8 l) (.int .u8 x) rfl rfl hown hbel hbel.size rfl (by simp [maxLen]) (by omega) ?_; intro v' w1 hown1 hbel1 hs1 hn1)
          go_wp2
          go_roundw
          case rel => exact ⟨2 + 1, l ++ [by8 x], by go_num, by omega, by rw [← cells8_snoc l x x (by omega)]; exact hown1, vb_stop hv.out (by rw [Hx.out]; simp) (by omega), hbel1⟩
          case measure => simp [intOf]; omega
      · obtain ⟨x, hx⟩ : ∃ x, x = (n / 2097152) % 128 := ⟨_, rfl⟩
        have hx0 : 0 ≤ x := by omega
        have hx1 : x < 128 := by omega
        have ha : bits .and .i64 (n / 2097152) 127 = x := by rw [and_127 (by omega) (by omega)]; exact hx.symm
        have ho : bits .or .u8 x 128 = x + 128 := or_128 hx0 hx1
        have Hx := Lib.hid hx
        clear hx
        by_cases hm : (3 : Int) + 1 < z
        · exfalso; omega
        · go_wp2_with (at_builtin; refine wpList_push (.tmp 28) (.tmp 30) 49 5 i0 (.int .u8 0) 1 rfl rfl Tryd.underlying49 hi hz0 hz1 hz2 rfl w.heap.size _ 3 (cells8 l) (.int .u8 x) rfl rfl hown hbel hbel.size rfl (by simp [maxLen]) (by omega) ?_; intro v' w1 hown1 hbel1 hs1 hn1)
          go_wp2
          go_roundw
          case rel => exact ⟨3 + 1, l ++ [by8 x], by go_num, by omega, by rw [← cells8_snoc l x x (by omega)]; exact hown1, vb_stop hv.out (by rw [Hx.out]; simp) (by omega), hbel1⟩
          case measure => simp [intOf]; omega
    · obtain rfl : z = k := by omega
      have hc := run_string_own (P := Tryd.prog) 49 9 5 w.heap.size _ k l Tryd.underlying49 Tryd.underlying5 Tryd.underlying9 hown
      have hl := Lib.hid (show l = enc n by have := hv.out; simpa [vb] using this)
      go_wp2
      go_ret2
      exact ⟨ret2 (val_str hl.out) rfl, hbel⟩

/-- The code that comes with a number's bytes. -/
def putC (n : Int) : Int := if n < 0 ∨ 268435455 < n then 129 else 0
theorem enc_bad {n : Int} (h : n < 0 ∨ 268435455 < n) : enc n = [] := by unfold enc; rw [sz_bad h]; rfl

theorem put_all (n : Int) (w : World) :
    Calls Tryd.prog 17 #[.int .i64 n] w fun e w' => e = .returned (.tuple #[.string ⟨(enc n).toArray⟩, .int .u8 (putC n)]) ∧ Below w.heap.size w w' := by
  by_cases hb : n < 0 ∨ 268435455 < n
  · have he := Lib.hid (enc_bad hb)
    have hp : Hid (putC n = 129) := by unfold putC; rw [if_pos hb]; exact Lib.hid rfl
    have hz := sz_bad hb
    go_enter Tryd.func17, Tryd.ntmps17
    go_wp2_with fail
    refine (size_any n _).mono ?_
    rintro e w' ⟨rfl, rfl⟩
    go_wp2
    go_ret2
    exact ⟨ret2 (val_str (l := []) he.out.symm) (val_int hp.out.symm), Below.refl _ _⟩
  · have hp : putC n = 0 := by unfold putC; rw [if_neg hb]
    rw [hp]
    exact put_any n w (by omega) (by omega)

theorem refput_all (n : Int) (w : World) :
    Calls Tryd.prog 24 #[.int .i64 n] w fun e w' => e = .returned (.tuple #[.string ⟨(enc n).toArray⟩, .int .i64 (putC n)]) ∧ Below w.heap.size w w' := by
  by_cases hb : n < 0 ∨ 268435455 < n
  · have he := Lib.hid (enc_bad hb)
    have hp : Hid (putC n = 129) := by unfold putC; rw [if_pos hb]; exact Lib.hid rfl
    have hz := sz_bad hb
    go_enter Tryd.func24, Tryd.ntmps24
    go_wp2_with fail
    refine (refsize_any n _).mono ?_
    rintro e w' ⟨rfl, rfl⟩
    go_wp2
    go_ret2
    exact ⟨ret2 (val_str (l := []) he.out.symm) (val_int hp.out.symm), Below.refl _ _⟩
  · have hp : Hid (putC n = 0) := by unfold putC; rw [if_neg hb]; exact Lib.hid rfl
    have h0 : 0 ≤ n := by omega
    have h1 : n ≤ 268435455 := by omega
    clear hb
    have hsz := sz_pos h0 h1
    obtain ⟨z, hz⟩ : ∃ z, z = sz n := ⟨_, rfl⟩
    have he : Hid (enc n = vb n z.toNat) := by unfold enc; rw [hz]; exact Lib.hid rfl
    rw [← hz] at hsz
    have hone := fun W x => run_string_one (P := Tryd.prog) (w := W) 49 9 5 x Tryd.underlying49 Tryd.underlying5 Tryd.underlying9
    go_enter Tryd.func24, Tryd.ntmps24
    go_wp2_with fail
    refine (refsize_any n _).mono ?_
    rintro e w' ⟨rfl, rfl⟩
    rw [← hz]
    have hz' := Lib.hid hz
    clear hz
    have hne : (z == 0) = false := by rw [beq_eq_false_iff_ne]; omega
    go_wp2
    go_loopw [0, 5, 6] (fun vm s i wr => ∃ (m : Int) (k : Nat) (l : List UInt8), vm = .int .i64 m ∧ i = .int .i64 k ∧ s = .string ⟨l.toArray⟩ ∧ 0 ≤ m ∧ m ≤ 268435455 ∧ (k : Int) ≤ z ∧ l.length ≤ k ∧ l ++ vb m (z.toNat - k) = enc n ∧ Below w.heap.size w wr)
      (fun _ _ i _ => (z - intOf i).toNat)
    case atStart => exact ⟨n, 0, [], rfl, rfl, rfl, h0, h1, by omega, by simp, by simpa using he.out.symm, Below.refl _ _⟩
    case round =>
      obtain ⟨m, k, l, rfl, rfl, rfl, hm0, hm1, hk, hl4, hv', hbel⟩ := hrel
      have hv := Lib.hid hv'
      clear hv'
      by_cases hkz : (k : Int) < z
      · by_cases hm : (k : Int) + 1 < z
        · go_wp2
          go_roundw
          case rel => exact ⟨m / 128, k + 1, l ++ [by8 (m % 128 + 128)], rfl, by go_num, str_snoc l (by omega) (by omega), by omega, by omega, by omega, by simp; omega, vm_step hv.out hm, hbel.alloc hbel.size _⟩
          case measure => simp [intOf]; omega
        · go_wp2
          go_roundw
          case rel => exact ⟨m / 128, k + 1, l ++ [by8 (m % 128)], rfl, by go_num, str_snoc l (by omega) (by omega), by omega, by omega, by omega, by simp; omega, vm_stop hv.out (by omega), hbel.alloc hbel.size _⟩
          case measure => simp [intOf]; omega
      · obtain rfl : z = k := by omega
        have hl := Lib.hid (show l = enc n by have := hv.out; simpa [vb] using this)
        go_wp2
        go_ret2
        exact ⟨ret2 (val_str hl.out) (val_int hp.out.symm), hbel⟩

theorem putC_bd (n : Int) : 0 ≤ putC n ∧ putC n ≤ 129 := by unfold putC; split <;> omega
end Go.Proofs.YtifbkfkieppacaaDoor
