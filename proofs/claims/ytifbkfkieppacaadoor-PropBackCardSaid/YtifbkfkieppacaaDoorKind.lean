/- The walks of both KindOf functions. -/
import Derived.Test.YtifbkfkieppacaaDoorRows
import Derived.Test.YtifbkfkieppacaaDoorKindPlain
import Derived.WalkLawsBesides
import Derived.WalkSpells
import Derived.Handy
namespace Go.Proofs.YtifbkfkieppacaaDoor
open Go.RowKit Pl

set_option maxHeartbeats 1600000 in
theorem kind_any (n : Int) (w : World) : Calls Tryd.prog 14 #[.int .i64 n] w fun e w' => e = .returned (.int .i64 (kindOf n)) ∧ w = w' := by
  go_enter Tryd.func14, Tryd.ntmps14
  go_wp2
  all_goals go_ret
  all_goals first
    | exact ⟨ret_int (kindE ‹(n == _) = true› (by decide)), rfl⟩
    | exact ⟨ret_int (kindN ‹_› ‹_› ‹_› ‹_› ‹_› ‹_› ‹_› ‹_› ‹_› ‹_› ‹_› ‹_› ‹_› ‹_› ‹_› ‹_› ‹_› ‹_› ‹_› ‹_› ‹_› ‹_› ‹_› ‹_› ‹_› ‹_› ‹_›), rfl⟩

theorem refin_any (b : Nat) (l : List Int) (n : Int) (w : World) (hl : l.length ≤ 1000) (hc : ∀ j, j < l.length → w.cell? ⟨b, j, none⟩ = some (.int .i64 (l.getD j 0))) :
    Calls Tryd.prog 37 #[.int .i64 n, .slice (some ⟨b, 0, none⟩) l.length l.length] w fun e w' => e = .returned (.bool (isIn n l)) ∧ w = w' := by
  have Hc := Lib.hid hc
  clear hc
  go_enter Tryd.func37, Tryd.ntmps37
  go_wp2
  go_loop [5] (fun i => ∃ k : Nat, i = .int .i64 k ∧ k ≤ l.length ∧ Hid (∀ j, j < k → l.getD j 0 ≠ n)) (fun i => l.length - (intOf i).toNat)
  case atStart => exact ⟨0, rfl, by omega, fun j hj => absurd hj (by omega)⟩
  case round =>
    obtain ⟨k, rfl, hk, hno⟩ := hrel
    by_cases hlt : k < l.length
    · have hcell := Hc.out k hlt
      obtain ⟨x, hx⟩ : ∃ x, l.getD k 0 = x := ⟨_, rfl⟩
      rw [hx] at hcell
      have Hx := Lib.hid hx
      clear hx
      by_cases he : x = n
      · have hhit := Lib.hid (isIn_hit hlt (Hx.out.trans he))
        subst he
        go_wp2
        go_ret
        exact ⟨ret_bool hhit.out.symm, rfl⟩
      · have hne : (x == n) = false := by rw [beq_eq_false_iff_ne]; exact he
        go_wp2
        go_round
        case rel => exact ⟨k + 1, by go_num, by omega, fun j hj => by
          by_cases hjk : j = k
          · subst hjk; rw [Hx.out]; exact he
          · exact hno.out j (by omega)⟩
        case measure => simp [intOf]; omega
    · have hnone := Lib.hid (isIn_none (n := n) (l := l) fun j hj => hno.out j (by omega))
      go_wp2
      go_ret
      exact ⟨ret_bool hnone.out.symm, rfl⟩

set_option maxHeartbeats 1600000 in
theorem refkind_any (n : Int) (w : World) : Calls Tryd.prog 21 #[.int .i64 n] w fun e w' => e = .returned (.int .i64 (kindOf n)) ∧ Below w.heap.size w w' := by
  obtain ⟨a, ha⟩ : ∃ a, isIn n [1, 23, 25, 36, 37, 40, 41, 42] = a := ⟨_, rfl⟩
  obtain ⟨b, hb⟩ : ∃ a, isIn n [19, 33, 34, 35] = a := ⟨_, rfl⟩
  obtain ⟨c, hc⟩ : ∃ a, isIn n [2, 17, 24, 39] = a := ⟨_, rfl⟩
  obtain ⟨d, hd⟩ : ∃ a, isIn n [9, 22] = a := ⟨_, rfl⟩
  obtain ⟨f, hf⟩ : ∃ a, isIn n [3, 8, 18, 21, 26, 28, 31] = a := ⟨_, rfl⟩
  obtain ⟨k1, k2, k3, k4, k5, k6, k7, k0⟩ := kindW n ha hb hc hd hf
  have K0 := Lib.hid k0
  have K1 := Lib.hid k1
  have K2 := Lib.hid k2
  have K3 := Lib.hid k3
  have K4 := Lib.hid k4
  have K5 := Lib.hid k5
  have K6 := Lib.hid k6
  have K7 := Lib.hid k7
  clear k0 k1 k2 k3 k4 k5 k6 k7
  go_enter Tryd.func21, Tryd.ntmps21
  go_wp2_with fail
  refine (refin_any _ [1, 23, 25, 36, 37, 40, 41, 42] n _ (by decide) ?_).mono ?_
  · exact cells_new _ .i64 3 [1, 23, 25, 36, 37, 40, 41, 42] _ (by simp)
  rintro e w' ⟨rfl, rfl⟩
  rw [ha]
  go_wp2_with fail
  refine (refin_any _ [19, 33, 34, 35] n _ (by decide) ?_).mono ?_
  · exact cells_new _ .i64 3 [19, 33, 34, 35] _ (by simp)
  rintro e w' ⟨rfl, rfl⟩
  rw [hb]
  go_wp2_with fail
  refine (refin_any _ [2, 17, 24, 39] n _ (by decide) ?_).mono ?_
  · exact cells_new _ .i64 3 [2, 17, 24, 39] _ (by simp)
  rintro e w' ⟨rfl, rfl⟩
  rw [hc]
  go_wp2_with fail
  refine (refin_any _ [9, 22] n _ (by decide) ?_).mono ?_
  · exact cells_new _ .i64 3 [9, 22] _ (by simp)
  rintro e w' ⟨rfl, rfl⟩
  rw [hd]
  go_wp2_with fail
  refine (refin_any _ [3, 8, 18, 21, 26, 28, 31] n _ (by decide) ?_).mono ?_
  · exact cells_new _ .i64 3 [3, 8, 18, 21, 26, 28, 31] _ (by simp)
  rintro e w' ⟨rfl, rfl⟩
  rw [hf]
  clear ha hb hc hd hf
  go_wp2
  all_goals go_ret
  all_goals refine ⟨?_, ?_⟩
  all_goals first
    | exact ret_int (K1.out ‹_›)
    | exact ret_int (K2.out ‹_› ‹_›)
    | exact ret_int (K3.out ‹_› ‹_› ‹_›)
    | exact ret_int (K4.out ‹_› ‹_› ‹_› ‹_›)
    | exact ret_int (K5.out ‹_› ‹_› ‹_› ‹_› ‹_›)
    | exact ret_int (K6.out ‹_› ‹_› ‹_› ‹_› ‹_› ‹_›)
    | exact ret_int (K7.out ‹_› ‹_› ‹_› ‹_› ‹_› ‹_› ‹_›)
    | exact ret_int (K0.out ‹_› ‹_› ‹_› ‹_› ‹_› ‹_› ‹_›)
    | go_grown
end Go.Proofs.YtifbkfkieppacaaDoor
