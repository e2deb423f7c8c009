/- The walks of both Size functions: they give sz. -/
import Derived.Test.YtifbkfkieppacaaDoorRows
import Derived.Test.YtifbkfkieppacaaDoorVarPlain
import Derived.WalkKit
import Derived.WalkLawsBesides
import Derived.WalkSpells
import Derived.Handy
import Derived.Lib.Hide
namespace Go.Proofs.YtifbkfkieppacaaDoor
open Go.RowKit Pl

theorem size_any (n : Int) (w : World) : Calls Tryd.prog 35 #[.int .i64 n] w fun e w' => e = .returned (.int .i64 (sz n)) ∧ w = w' := by
  go_enter Tryd.func35, Tryd.ntmps35
  go_wp2
  all_goals go_ret
  all_goals exact ⟨ret_int (by first | rw [sz_bad (by omega)] | rw [sz_1 (by omega) (by omega)] | rw [sz_2 (by omega) (by omega)] | rw [sz_3 (by omega) (by omega)] | rw [sz_4 (by omega) (by omega)]), rfl⟩

theorem refsize_any (n : Int) (w : World) : Calls Tryd.prog 42 #[.int .i64 n] w fun e w' => e = .returned (.int .i64 (sz n)) ∧ w = w' := by
  by_cases hb : n < 0 ∨ 268435455 < n
  · have hs : Hid (sz n = 0) := Lib.hid (sz_bad hb)
    go_enter Tryd.func42, Tryd.ntmps42
    go_wp2
    all_goals go_ret
    all_goals exact ⟨ret_int hs.out.symm, rfl⟩
  · have h0 : 0 ≤ n := by omega
    have h1 : n ≤ 268435455 := by omega
    clear hb
    go_enter Tryd.func42, Tryd.ntmps42
    go_wp2
    go_loop [0, 3] (fun v0 v3 => ∃ m k : Int, v0 = .int .i64 m ∧ v3 = .int .i64 k ∧ 0 ≤ m ∧ m ≤ 268435455 ∧ 1 ≤ k ∧ k ≤ 4 ∧ sz n = sz m + k - 1) (fun v0 _ => (intOf v0).toNat)
    case atStart => exact ⟨n, 1, rfl, rfl, h0, h1, by omega, by omega, by omega⟩
    case round =>
      obtain ⟨m, k, rfl, rfl, hm0, hm1, hk1, hk4, hs'⟩ := hrel
      have hs := Lib.hid hs'
      clear hs'
      by_cases hm : 127 < m
      · have hd := Lib.hid (sz_div (n := m) (by omega) hm1)
        have hk3 : k ≤ 3 := sz_room hs.out hd.out h0 h1 (by omega) (by omega)
        go_wp2
        go_round
        case rel => exact ⟨m / 128, k + 1, rfl, rfl, by omega, by omega, by omega, by omega, by rw [hs.out, hd.out]; omega⟩
        case measure => simp [intOf]; omega
      · have hd := Lib.hid (sz_1 (n := m) (by omega) (by omega))
        go_wp2
        go_ret
        exact ⟨ret_int (by rw [hs.out, hd.out]; omega), rfl⟩
end Go.Proofs.YtifbkfkieppacaaDoor
