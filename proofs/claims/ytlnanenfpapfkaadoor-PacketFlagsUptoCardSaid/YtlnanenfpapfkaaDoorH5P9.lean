/- Parts of the proof, joined: Allow, Wr3, Wr4. -/
import Derived.Test.YtlnanenfpapfkaaDoorRows
import Derived.Test.YtlnanenfpapfkaaDoorH5P3
import Derived.WalkLawsBesides
import Derived.WalkSpells
import Derived.Handy
import Derived.Test.YtlnanenfpapfkaaDoorH5P8
import Derived.Test.YtlnanenfpapfkaaDoorH5P4
/- The walks of packet.Allowed and of the document's Allowed. -/
namespace Go.Proofs.YtlnanenfpapfkaaDoor
open Go.RowKit Pl

/-- The result is some integer of which P holds; the world is as it was. -/
def SomeInt (P : Int → Prop) (w : World) (e : Ending) (w' : World) : Prop := ∃ n : Int, P n ∧ e = .returned (.int .i64 n) ∧ w = w'

theorem index_hit (b : Nat) (l : List Int) (n : Int) (w : World) (hl : l.length ≤ 1000) (hc : ∀ j, j < l.length → w.cell? ⟨b, j, none⟩ = some (.int .i64 (l.getD j 0))) (hin : isIn n l = true) :
    Calls Tryd.prog 105 #[.slice (some ⟨b, 0, none⟩) l.length l.length, .int .i64 n] w (SomeInt (fun r => 0 ≤ r) w) := by
  have Hc := Lib.hid hc
  clear hc
  go_enter Tryd.func105, Tryd.ntmps105
  go_wp2
  go_loop [8] (fun i => ∃ k : Nat, i = .int .i64 k ∧ k ≤ l.length ∧ Hid (∀ j, j < k → l.getD j 0 ≠ n)) (fun i => l.length - (intOf i).toNat)
  case atStart => exact ⟨0, rfl, by omega, fun j hj => absurd hj (by omega)⟩
  case round =>
    obtain ⟨k, rfl, hk, hno⟩ := hrel
    by_cases hlt : k < l.length
    · have hcell := Hc.out k hlt
      obtain ⟨x, hx⟩ : ∃ x, l.getD k 0 = x := ⟨_, rfl⟩
      rw [hx] at hcell
      have Hx := Lib.hid hx
      clear hx
      by_cases he : n = x
      · subst he
        go_wp2
        go_ret
        exact ⟨k, by omega, rfl, rfl⟩
      · have hne : (n == x) = false := by rw [beq_eq_false_iff_ne]; exact he
        go_wp2
        go_round
        case rel => exact ⟨k + 1, by go_num, by omega, fun j hj => by
          by_cases hjk : j = k
          · subst hjk; rw [Hx.out]; exact fun h => he h.symm
          · exact hno.out j (by omega)⟩
        case measure => simp [intOf]; omega
    · exfalso
      have := isIn_none (n := n) (l := l) fun j hj => hno.out j (by omega)
      rw [this] at hin
      exact absurd hin (by decide)

theorem index_none (b : Nat) (l : List Int) (n : Int) (w : World) (hl : l.length ≤ 1000) (hc : ∀ j, j < l.length → w.cell? ⟨b, j, none⟩ = some (.int .i64 (l.getD j 0))) (hin : isIn n l = false) :
    Calls Tryd.prog 105 #[.slice (some ⟨b, 0, none⟩) l.length l.length, .int .i64 n] w fun e w' => e = .returned (.int .i64 (-1)) ∧ w = w' := by
  have Hc := Lib.hid hc
  have Hin := Lib.hid hin
  clear hc hin
  go_enter Tryd.func105, Tryd.ntmps105
  go_wp2
  go_loop [8] (fun i => ∃ k : Nat, i = .int .i64 k ∧ k ≤ l.length) (fun i => l.length - (intOf i).toNat)
  case atStart => exact ⟨0, rfl, by omega⟩
  case round =>
    obtain ⟨k, rfl, hk⟩ := hrel
    by_cases hlt : k < l.length
    · have hcell := Hc.out k hlt
      obtain ⟨x, hx⟩ : ∃ x, l.getD k 0 = x := ⟨_, rfl⟩
      rw [hx] at hcell
      have hne : (n == x) = false := by
        rw [beq_eq_false_iff_ne]
        intro he
        have := isIn_hit hlt (hx.trans he.symm)
        rw [Hin.out] at this
        exact absurd this (by decide)
      have Hx := Lib.hid hx
      clear hx
      go_wp2
      go_round
      case rel => exact ⟨k + 1, by go_num, by omega⟩
      case measure => simp [intOf]; omega
    · go_wp2
      go_ret
      exact ⟨rfl, rfl⟩

theorem contains_any (b : Nat) (l : List Int) (n : Int) (w : World) (hl : l.length ≤ 1000) (hc : ∀ j, j < l.length → w.cell? ⟨b, j, none⟩ = some (.int .i64 (l.getD j 0))) :
    Calls Tryd.prog 91 #[.slice (some ⟨b, 0, none⟩) l.length l.length, .int .i64 n] w fun e w' => e = .returned (.bool (isIn n l)) ∧ w = w' := by
  have Hc := Lib.hid hc
  clear hc
  by_cases hin : isIn n l = true
  · have Hin := Lib.hid hin
    clear hin
    go_enter Tryd.func91, Tryd.ntmps91
    go_wp2_with fail
    refine (index_hit b l n _ hl Hc.out Hin.out).mono ?_
    rintro e w' ⟨r, hr, rfl, rfl⟩
    go_wp2
    go_ret
    exact ⟨ret_bool Hin.out.symm, rfl⟩
  · have Hin := Lib.hid (by simpa using hin : isIn n l = false)
    clear hin
    go_enter Tryd.func91, Tryd.ntmps91
    go_wp2_with fail
    refine (index_none b l n _ hl Hc.out Hin.out).mono ?_
    rintro e w' ⟨rfl, rfl⟩
    go_wp2
    go_ret
    exact ⟨ret_bool Hin.out.symm, rfl⟩

theorem contains_nil (n : Int) (w : World) :
    Calls Tryd.prog 91 #[.slice none 0 0, .int .i64 n] w fun e w' => e = .returned (.bool false) ∧ w = w' := by
  go_enter Tryd.func91, Tryd.ntmps91
  go_wp2
  refine wp_loop_rounds 1 ?_
  rw [rounds_succ]
  go_wp2
  go_ret
  exact ⟨rfl, rfl⟩

theorem refin5_any (b : Nat) (l : List Int) (n : Int) (w : World) (hl : l.length ≤ 1000) (hc : ∀ j, j < l.length → w.cell? ⟨b, j, none⟩ = some (.int .i64 (l.getD j 0))) :
    Calls Tryd.prog 108 #[.int .i64 n, .slice (some ⟨b, 0, none⟩) l.length l.length] w fun e w' => e = .returned (.bool (isIn n l)) ∧ w = w' := by
  have Hc := Lib.hid hc
  clear hc
  go_enter Tryd.func108, Tryd.ntmps108
  go_wp2
  go_loop [5] (fun i => ∃ k : Nat, i = .int .i64 k ∧ k ≤ l.length ∧ Hid (∀ j, j < k → l.getD j 0 ≠ n)) (fun i => l.length - (intOf i).toNat)
  case atStart => exact ⟨0, rfl, by omega, fun j hj => absurd hj (by omega)⟩
  case round =>
    obtain ⟨k, rfl, hk, hno⟩ := hrel
    by_cases hlt : k < l.length
    · have hcell := Hc.out k hlt
      obtain ⟨x, hx⟩ : ∃ x, l.getD k 0 = x := ⟨_, rfl⟩
      rw [hx] at hcell
      have Hx := Lib.hid hx
      clear hx
      by_cases he : x = n
      · have hhit := Lib.hid (isIn_hit hlt (Hx.out.trans he))
        subst he
        go_wp2
        go_ret
        exact ⟨ret_bool hhit.out.symm, rfl⟩
      · have hne : (x == n) = false := by rw [beq_eq_false_iff_ne]; exact he
        go_wp2
        go_round
        case rel => exact ⟨k + 1, by go_num, by omega, fun j hj => by
          by_cases hjk : j = k
          · subst hjk; rw [Hx.out]; exact he
          · exact hno.out j (by omega)⟩
        case measure => simp [intOf]; omega
    · have hnone := Lib.hid (isIn_none (n := n) (l := l) fun j hj => hno.out j (by omega))
      go_wp2
      go_ret
      exact ⟨ret_bool hnone.out.symm, rfl⟩

theorem allowed_0 (n : Int) (w : World) : Calls Tryd.prog 69 #[.int .i64 0, .int .i64 n] w fun e w' => e = .returned (.bool (alw 0 n)) ∧ Below w.heap.size w w' := by
  go_enter Tryd.func69, Tryd.ntmps69
  go_wp2_with fail
  refine (contains_any _ [1, 2, 3, 8, 9, 24, 38] n _ (by decide) ?_).mono ?_
  · exact cells_new _ .i64 3 [1, 2, 3, 8, 9, 24, 38] _ (by simp)
  rintro e w' ⟨rfl, rfl⟩
  go_wp2
  go_ret
  exact ⟨rfl, by go_grown⟩

theorem allowed_1 (n : Int) (w : World) : Calls Tryd.prog 69 #[.int .i64 1, .int .i64 n] w fun e w' => e = .returned (.bool (alw 1 n)) ∧ Below w.heap.size w w' := by
  go_enter Tryd.func69, Tryd.ntmps69
  go_wp2_with fail
  refine (contains_any _ [17, 21, 22, 23, 25, 33, 34, 38, 39] n _ (by decide) ?_).mono ?_
  · exact cells_new _ .i64 3 [17, 21, 22, 23, 25, 33, 34, 38, 39] _ (by simp)
  rintro e w' ⟨rfl, rfl⟩
  go_wp2
  go_ret
  exact ⟨rfl, by go_grown⟩

theorem allowed_2 (n : Int) (w : World) : Calls Tryd.prog 69 #[.int .i64 2, .int .i64 n] w fun e w' => e = .returned (.bool (alw 2 n)) ∧ Below w.heap.size w w' := by
  go_enter Tryd.func69, Tryd.ntmps69
  go_wp2_with fail
  refine (contains_any _ [17, 18, 19, 21, 22, 26, 28, 31, 33, 34, 36, 37, 38, 39, 40, 41, 42] n _ (by decide) ?_).mono ?_
  · exact cells_new _ .i64 3 [17, 18, 19, 21, 22, 26, 28, 31, 33, 34, 36, 37, 38, 39, 40, 41, 42] _ (by simp)
  rintro e w' ⟨rfl, rfl⟩
  go_wp2
  go_ret
  exact ⟨rfl, by go_grown⟩

theorem allowed_3 (n : Int) (w : World) : Calls Tryd.prog 69 #[.int .i64 3, .int .i64 n] w fun e w' => e = .returned (.bool (alw 3 n)) ∧ Below w.heap.size w w' := by
  go_enter Tryd.func69, Tryd.ntmps69
  go_wp2_with fail
  refine (contains_any _ [1, 2, 3, 8, 9, 11, 35, 38] n _ (by decide) ?_).mono ?_
  · exact cells_new _ .i64 3 [1, 2, 3, 8, 9, 11, 35, 38] _ (by simp)
  rintro e w' ⟨rfl, rfl⟩
  go_wp2
  go_ret
  exact ⟨rfl, by go_grown⟩

theorem allowed_4 (n : Int) (w : World) : Calls Tryd.prog 69 #[.int .i64 4, .int .i64 n] w fun e w' => e = .returned (.bool (alw 4 n)) ∧ Below w.heap.size w w' := by
  go_enter Tryd.func69, Tryd.ntmps69
  go_wp2_with fail
  refine (contains_any _ [31, 38] n _ (by decide) ?_).mono ?_
  · exact cells_new _ .i64 3 [31, 38] _ (by simp)
  rintro e w' ⟨rfl, rfl⟩
  go_wp2
  go_ret
  exact ⟨rfl, by go_grown⟩

theorem allowed_5 (n : Int) (w : World) : Calls Tryd.prog 69 #[.int .i64 5, .int .i64 n] w fun e w' => e = .returned (.bool (alw 5 n)) ∧ Below w.heap.size w w' := by
  go_enter Tryd.func69, Tryd.ntmps69
  go_wp2_with fail
  refine (contains_any _ [31, 38] n _ (by decide) ?_).mono ?_
  · exact cells_new _ .i64 3 [31, 38] _ (by simp)
  rintro e w' ⟨rfl, rfl⟩
  go_wp2
  go_ret
  exact ⟨rfl, by go_grown⟩

theorem allowed_6 (n : Int) (w : World) : Calls Tryd.prog 69 #[.int .i64 6, .int .i64 n] w fun e w' => e = .returned (.bool (alw 6 n)) ∧ Below w.heap.size w w' := by
  go_enter Tryd.func69, Tryd.ntmps69
  go_wp2_with fail
  refine (contains_any _ [31, 38] n _ (by decide) ?_).mono ?_
  · exact cells_new _ .i64 3 [31, 38] _ (by simp)
  rintro e w' ⟨rfl, rfl⟩
  go_wp2
  go_ret
  exact ⟨rfl, by go_grown⟩

theorem allowed_7 (n : Int) (w : World) : Calls Tryd.prog 69 #[.int .i64 7, .int .i64 n] w fun e w' => e = .returned (.bool (alw 7 n)) ∧ Below w.heap.size w w' := by
  go_enter Tryd.func69, Tryd.ntmps69
  go_wp2_with fail
  refine (contains_any _ [31, 38] n _ (by decide) ?_).mono ?_
  · exact cells_new _ .i64 3 [31, 38] _ (by simp)
  rintro e w' ⟨rfl, rfl⟩
  go_wp2
  go_ret
  exact ⟨rfl, by go_grown⟩

theorem allowed_8 (n : Int) (w : World) : Calls Tryd.prog 69 #[.int .i64 8, .int .i64 n] w fun e w' => e = .returned (.bool (alw 8 n)) ∧ Below w.heap.size w w' := by
  go_enter Tryd.func69, Tryd.ntmps69
  go_wp2_with fail
  refine (contains_any _ [11, 38] n _ (by decide) ?_).mono ?_
  · exact cells_new _ .i64 3 [11, 38] _ (by simp)
  rintro e w' ⟨rfl, rfl⟩
  go_wp2
  go_ret
  exact ⟨rfl, by go_grown⟩

theorem allowed_9 (n : Int) (w : World) : Calls Tryd.prog 69 #[.int .i64 9, .int .i64 n] w fun e w' => e = .returned (.bool (alw 9 n)) ∧ Below w.heap.size w w' := by
  go_enter Tryd.func69, Tryd.ntmps69
  go_wp2_with fail
  refine (contains_any _ [31, 38] n _ (by decide) ?_).mono ?_
  · exact cells_new _ .i64 3 [31, 38] _ (by simp)
  rintro e w' ⟨rfl, rfl⟩
  go_wp2
  go_ret
  exact ⟨rfl, by go_grown⟩

theorem allowed_10 (n : Int) (w : World) : Calls Tryd.prog 69 #[.int .i64 10, .int .i64 n] w fun e w' => e = .returned (.bool (alw 10 n)) ∧ Below w.heap.size w w' := by
  go_enter Tryd.func69, Tryd.ntmps69
  go_wp2_with fail
  refine (contains_any _ [38] n _ (by decide) ?_).mono ?_
  · exact cells_new _ .i64 3 [38] _ (by simp)
  rintro e w' ⟨rfl, rfl⟩
  go_wp2
  go_ret
  exact ⟨rfl, by go_grown⟩

theorem allowed_11 (n : Int) (w : World) : Calls Tryd.prog 69 #[.int .i64 11, .int .i64 n] w fun e w' => e = .returned (.bool (alw 11 n)) ∧ Below w.heap.size w w' := by
  go_enter Tryd.func69, Tryd.ntmps69
  go_wp2_with fail
  refine (contains_any _ [31, 38] n _ (by decide) ?_).mono ?_
  · exact cells_new _ .i64 3 [31, 38] _ (by simp)
  rintro e w' ⟨rfl, rfl⟩
  go_wp2
  go_ret
  exact ⟨rfl, by go_grown⟩

theorem allowed_14 (n : Int) (w : World) : Calls Tryd.prog 69 #[.int .i64 14, .int .i64 n] w fun e w' => e = .returned (.bool (alw 14 n)) ∧ Below w.heap.size w w' := by
  go_enter Tryd.func69, Tryd.ntmps69
  go_wp2_with fail
  refine (contains_any _ [17, 28, 31, 38] n _ (by decide) ?_).mono ?_
  · exact cells_new _ .i64 3 [17, 28, 31, 38] _ (by simp)
  rintro e w' ⟨rfl, rfl⟩
  go_wp2
  go_ret
  exact ⟨rfl, by go_grown⟩

theorem allowed_15 (n : Int) (w : World) : Calls Tryd.prog 69 #[.int .i64 15, .int .i64 n] w fun e w' => e = .returned (.bool (alw 15 n)) ∧ Below w.heap.size w w' := by
  go_enter Tryd.func69, Tryd.ntmps69
  go_wp2_with fail
  refine (contains_any _ [21, 22, 31, 38] n _ (by decide) ?_).mono ?_
  · exact cells_new _ .i64 3 [21, 22, 31, 38] _ (by simp)
  rintro e w' ⟨rfl, rfl⟩
  go_wp2
  go_ret
  exact ⟨rfl, by go_grown⟩

theorem allowed_other (k n : Int) (w : World) (h0 : (k == 0) = false) (h1 : (k == 1) = false) (h2 : (k == 2) = false) (h3 : (k == 3) = false) (h4 : (k == 4) = false) (h5 : (k == 5) = false) (h6 : (k == 6) = false) (h7 : (k == 7) = false) (h8 : (k == 8) = false) (h9 : (k == 9) = false) (h10 : (k == 10) = false) (h11 : (k == 11) = false) (h14 : (k == 14) = false) (h15 : (k == 15) = false) : Calls Tryd.prog 69 #[.int .i64 k, .int .i64 n] w fun e w' => e = .returned (.bool (alw k n)) ∧ Below w.heap.size w w' := by
  have hn := Lib.hid (alw_other n h0 h1 h2 h3 h4 h5 h6 h7 h8 h9 h10 h11 h14 h15)
  go_enter Tryd.func69, Tryd.ntmps69
  go_wp2_with fail
  refine (contains_nil n _).mono ?_
  rintro e w' ⟨rfl, rfl⟩
  go_wp2
  go_ret
  exact ⟨ret_bool hn.out.symm, Below.refl _ _⟩

theorem allowed_any (k n : Int) (w : World) : Calls Tryd.prog 69 #[.int .i64 k, .int .i64 n] w fun e w' => e = .returned (.bool (alw k n)) ∧ Below w.heap.size w w' := by
  by_cases h0 : k = 0
  · subst h0; exact allowed_0 n w
  by_cases h1 : k = 1
  · subst h1; exact allowed_1 n w
  by_cases h2 : k = 2
  · subst h2; exact allowed_2 n w
  by_cases h3 : k = 3
  · subst h3; exact allowed_3 n w
  by_cases h4 : k = 4
  · subst h4; exact allowed_4 n w
  by_cases h5 : k = 5
  · subst h5; exact allowed_5 n w
  by_cases h6 : k = 6
  · subst h6; exact allowed_6 n w
  by_cases h7 : k = 7
  · subst h7; exact allowed_7 n w
  by_cases h8 : k = 8
  · subst h8; exact allowed_8 n w
  by_cases h9 : k = 9
  · subst h9; exact allowed_9 n w
  by_cases h10 : k = 10
  · subst h10; exact allowed_10 n w
  by_cases h11 : k = 11
  · subst h11; exact allowed_11 n w
  by_cases h14 : k = 14
  · subst h14; exact allowed_14 n w
  by_cases h15 : k = 15
  · subst h15; exact allowed_15 n w
  exact allowed_other k n w (beq_eq_false_iff_ne.2 h0) (beq_eq_false_iff_ne.2 h1) (beq_eq_false_iff_ne.2 h2) (beq_eq_false_iff_ne.2 h3) (beq_eq_false_iff_ne.2 h4) (beq_eq_false_iff_ne.2 h5) (beq_eq_false_iff_ne.2 h6) (beq_eq_false_iff_ne.2 h7) (beq_eq_false_iff_ne.2 h8) (beq_eq_false_iff_ne.2 h9) (beq_eq_false_iff_ne.2 h10) (beq_eq_false_iff_ne.2 h11) (beq_eq_false_iff_ne.2 h14) (beq_eq_false_iff_ne.2 h15)

theorem refallowed_0 (n : Int) (w : World) : Calls Tryd.prog 96 #[.int .i64 0, .int .i64 n] w fun e w' => e = .returned (.bool (alw 0 n)) ∧ Below w.heap.size w w' := by
  go_enter Tryd.func96, Tryd.ntmps96
  go_wp2_with fail
  refine (refin5_any _ [1, 2, 3, 8, 9, 24, 38] n _ (by decide) ?_).mono ?_
  · exact cells_new _ .i64 3 [1, 2, 3, 8, 9, 24, 38] _ (by simp)
  rintro e w' ⟨rfl, rfl⟩
  go_wp2
  go_ret
  exact ⟨rfl, by go_grown⟩

theorem refallowed_1 (n : Int) (w : World) : Calls Tryd.prog 96 #[.int .i64 1, .int .i64 n] w fun e w' => e = .returned (.bool (alw 1 n)) ∧ Below w.heap.size w w' := by
  go_enter Tryd.func96, Tryd.ntmps96
  go_wp2_with fail
  refine (refin5_any _ [17, 21, 22, 23, 25, 33, 34, 38, 39] n _ (by decide) ?_).mono ?_
  · exact cells_new _ .i64 3 [17, 21, 22, 23, 25, 33, 34, 38, 39] _ (by simp)
  rintro e w' ⟨rfl, rfl⟩
  go_wp2
  go_ret
  exact ⟨rfl, by go_grown⟩

theorem refallowed_2 (n : Int) (w : World) : Calls Tryd.prog 96 #[.int .i64 2, .int .i64 n] w fun e w' => e = .returned (.bool (alw 2 n)) ∧ Below w.heap.size w w' := by
  rw [alw_2 n]
  obtain ⟨a, ha⟩ : ∃ a, isIn n [17, 18, 19, 21, 22, 26, 28, 31, 33, 34] = a := ⟨_, rfl⟩
  rw [ha]
  cases a
  all_goals
    go_enter Tryd.func96, Tryd.ntmps96
    go_wp2_with fail
    refine (refin5_any _ [17, 18, 19, 21, 22, 26, 28, 31, 33, 34] n _ (by decide) ?_).mono ?_
    · exact cells_new _ .i64 3 [17, 18, 19, 21, 22, 26, 28, 31, 33, 34] _ (by simp)
    rintro e w' ⟨rfl, rfl⟩
    rw [ha]
    go_wp2
    all_goals go_ret
    all_goals exact ⟨by first | rfl | (simp; done) | (simp; omega), by go_grown⟩

theorem refallowed_3 (n : Int) (w : World) : Calls Tryd.prog 96 #[.int .i64 3, .int .i64 n] w fun e w' => e = .returned (.bool (alw 3 n)) ∧ Below w.heap.size w w' := by
  go_enter Tryd.func96, Tryd.ntmps96
  go_wp2_with fail
  refine (refin5_any _ [1, 2, 3, 8, 9, 11, 35, 38] n _ (by decide) ?_).mono ?_
  · exact cells_new _ .i64 3 [1, 2, 3, 8, 9, 11, 35, 38] _ (by simp)
  rintro e w' ⟨rfl, rfl⟩
  go_wp2
  go_ret
  exact ⟨rfl, by go_grown⟩

theorem refallowed_4 (n : Int) (w : World) : Calls Tryd.prog 96 #[.int .i64 4, .int .i64 n] w fun e w' => e = .returned (.bool (alw 4 n)) ∧ Below w.heap.size w w' := by
  have hn := Lib.hid (show alw 4 n = _ from isIn_two n 31 38)
  go_enter Tryd.func96, Tryd.ntmps96
  go_wp2
  all_goals go_ret
  all_goals exact ⟨by first | exact ret_bool hn.out.symm | (rw [hn.out]; simp [*]), Below.refl _ _⟩

theorem refallowed_5 (n : Int) (w : World) : Calls Tryd.prog 96 #[.int .i64 5, .int .i64 n] w fun e w' => e = .returned (.bool (alw 5 n)) ∧ Below w.heap.size w w' := by
  have hn := Lib.hid (show alw 5 n = _ from isIn_two n 31 38)
  go_enter Tryd.func96, Tryd.ntmps96
  go_wp2
  all_goals go_ret
  all_goals exact ⟨by first | exact ret_bool hn.out.symm | (rw [hn.out]; simp [*]), Below.refl _ _⟩

theorem refallowed_6 (n : Int) (w : World) : Calls Tryd.prog 96 #[.int .i64 6, .int .i64 n] w fun e w' => e = .returned (.bool (alw 6 n)) ∧ Below w.heap.size w w' := by
  have hn := Lib.hid (show alw 6 n = _ from isIn_two n 31 38)
  go_enter Tryd.func96, Tryd.ntmps96
  go_wp2
  all_goals go_ret
  all_goals exact ⟨by first | exact ret_bool hn.out.symm | (rw [hn.out]; simp [*]), Below.refl _ _⟩

theorem refallowed_7 (n : Int) (w : World) : Calls Tryd.prog 96 #[.int .i64 7, .int .i64 n] w fun e w' => e = .returned (.bool (alw 7 n)) ∧ Below w.heap.size w w' := by
  have hn := Lib.hid (show alw 7 n = _ from isIn_two n 31 38)
  go_enter Tryd.func96, Tryd.ntmps96
  go_wp2
  all_goals go_ret
  all_goals exact ⟨by first | exact ret_bool hn.out.symm | (rw [hn.out]; simp [*]), Below.refl _ _⟩

theorem refallowed_8 (n : Int) (w : World) : Calls Tryd.prog 96 #[.int .i64 8, .int .i64 n] w fun e w' => e = .returned (.bool (alw 8 n)) ∧ Below w.heap.size w w' := by
  have hn := Lib.hid (show alw 8 n = _ from isIn_two n 11 38)
  go_enter Tryd.func96, Tryd.ntmps96
  go_wp2
  all_goals go_ret
  all_goals exact ⟨by first | exact ret_bool hn.out.symm | (rw [hn.out]; simp [*]), Below.refl _ _⟩

theorem refallowed_9 (n : Int) (w : World) : Calls Tryd.prog 96 #[.int .i64 9, .int .i64 n] w fun e w' => e = .returned (.bool (alw 9 n)) ∧ Below w.heap.size w w' := by
  have hn := Lib.hid (show alw 9 n = _ from isIn_two n 31 38)
  go_enter Tryd.func96, Tryd.ntmps96
  go_wp2
  all_goals go_ret
  all_goals exact ⟨by first | exact ret_bool hn.out.symm | (rw [hn.out]; simp [*]), Below.refl _ _⟩

theorem refallowed_10 (n : Int) (w : World) : Calls Tryd.prog 96 #[.int .i64 10, .int .i64 n] w fun e w' => e = .returned (.bool (alw 10 n)) ∧ Below w.heap.size w w' := by
  have hn := Lib.hid (show alw 10 n = _ from isIn_one n 38)
  go_enter Tryd.func96, Tryd.ntmps96
  go_wp2
  all_goals go_ret
  all_goals exact ⟨by first | exact ret_bool hn.out.symm | (rw [hn.out]; simp [*]), Below.refl _ _⟩

theorem refallowed_11 (n : Int) (w : World) : Calls Tryd.prog 96 #[.int .i64 11, .int .i64 n] w fun e w' => e = .returned (.bool (alw 11 n)) ∧ Below w.heap.size w w' := by
  have hn := Lib.hid (show alw 11 n = _ from isIn_two n 31 38)
  go_enter Tryd.func96, Tryd.ntmps96
  go_wp2
  all_goals go_ret
  all_goals exact ⟨by first | exact ret_bool hn.out.symm | (rw [hn.out]; simp [*]), Below.refl _ _⟩

theorem refallowed_14 (n : Int) (w : World) : Calls Tryd.prog 96 #[.int .i64 14, .int .i64 n] w fun e w' => e = .returned (.bool (alw 14 n)) ∧ Below w.heap.size w w' := by
  go_enter Tryd.func96, Tryd.ntmps96
  go_wp2_with fail
  refine (refin5_any _ [17, 28, 31, 38] n _ (by decide) ?_).mono ?_
  · exact cells_new _ .i64 3 [17, 28, 31, 38] _ (by simp)
  rintro e w' ⟨rfl, rfl⟩
  go_wp2
  go_ret
  exact ⟨rfl, by go_grown⟩

theorem refallowed_15 (n : Int) (w : World) : Calls Tryd.prog 96 #[.int .i64 15, .int .i64 n] w fun e w' => e = .returned (.bool (alw 15 n)) ∧ Below w.heap.size w w' := by
  go_enter Tryd.func96, Tryd.ntmps96
  go_wp2_with fail
  refine (refin5_any _ [21, 22, 31, 38] n _ (by decide) ?_).mono ?_
  · exact cells_new _ .i64 3 [21, 22, 31, 38] _ (by simp)
  rintro e w' ⟨rfl, rfl⟩
  go_wp2
  go_ret
  exact ⟨rfl, by go_grown⟩

theorem refallowed_other (k n : Int) (w : World) (h0 : (k == 0) = false) (h1 : (k == 1) = false) (h2 : (k == 2) = false) (h3 : (k == 3) = false) (h4 : (k == 4) = false) (h5 : (k == 5) = false) (h6 : (k == 6) = false) (h7 : (k == 7) = false) (h8 : (k == 8) = false) (h9 : (k == 9) = false) (h10 : (k == 10) = false) (h11 : (k == 11) = false) (h14 : (k == 14) = false) (h15 : (k == 15) = false) : Calls Tryd.prog 96 #[.int .i64 k, .int .i64 n] w fun e w' => e = .returned (.bool (alw k n)) ∧ Below w.heap.size w w' := by
  have hn := Lib.hid (alw_other n h0 h1 h2 h3 h4 h5 h6 h7 h8 h9 h10 h11 h14 h15)
  go_enter Tryd.func96, Tryd.ntmps96
  go_wp2
  go_ret
  exact ⟨ret_bool hn.out.symm, Below.refl _ _⟩

theorem refallowed_any (k n : Int) (w : World) : Calls Tryd.prog 96 #[.int .i64 k, .int .i64 n] w fun e w' => e = .returned (.bool (alw k n)) ∧ Below w.heap.size w w' := by
  by_cases h0 : k = 0
  · subst h0; exact refallowed_0 n w
  by_cases h1 : k = 1
  · subst h1; exact refallowed_1 n w
  by_cases h2 : k = 2
  · subst h2; exact refallowed_2 n w
  by_cases h3 : k = 3
  · subst h3; exact refallowed_3 n w
  by_cases h4 : k = 4
  · subst h4; exact refallowed_4 n w
  by_cases h5 : k = 5
  · subst h5; exact refallowed_5 n w
  by_cases h6 : k = 6
  · subst h6; exact refallowed_6 n w
  by_cases h7 : k = 7
  · subst h7; exact refallowed_7 n w
  by_cases h8 : k = 8
  · subst h8; exact refallowed_8 n w
  by_cases h9 : k = 9
  · subst h9; exact refallowed_9 n w
  by_cases h10 : k = 10
  · subst h10; exact refallowed_10 n w
  by_cases h11 : k = 11
  · subst h11; exact refallowed_11 n w
  by_cases h14 : k = 14
  · subst h14; exact refallowed_14 n w
  by_cases h15 : k = 15
  · subst h15; exact refallowed_15 n w
  exact refallowed_other k n w (beq_eq_false_iff_ne.2 h0) (beq_eq_false_iff_ne.2 h1) (beq_eq_false_iff_ne.2 h2) (beq_eq_false_iff_ne.2 h3) (beq_eq_false_iff_ne.2 h4) (beq_eq_false_iff_ne.2 h5) (beq_eq_false_iff_ne.2 h6) (beq_eq_false_iff_ne.2 h7) (beq_eq_false_iff_ne.2 h8) (beq_eq_false_iff_ne.2 h9) (beq_eq_false_iff_ne.2 h10) (beq_eq_false_iff_ne.2 h11) (beq_eq_false_iff_ne.2 h14) (beq_eq_false_iff_ne.2 h15)
end Go.Proofs.YtlnanenfpapfkaaDoor

/- The walks of a writer's props, of slices.ContainsFunc at properties. -/
set_option linter.unusedVariables false
namespace Go.Proofs.YtlnanenfpapfkaaDoor
open Go.Shelf Go.RowKit Pl

theorem propsC_any (K : Nat) (k : Int) (p : Pp) (w : World) (hK : w.cell? ⟨K, 0, none⟩ = some (.int .i64 k)) (hl : K < w.heap.size) :
    Calls Tryd.prog 68 #[.agg #[.int .i64 p.id, .int .i64 p.n, .string p.s, .string p.t], .pointer (some ⟨K, 0, none⟩)] w fun e w' => e = .returned (.bool (!alw k p.id)) ∧ Below w.heap.size w w' := by
  have e1 : (w.alloc (.cells #[.int .i64 p.id, .int .i64 p.n, .string p.s, .string p.t] 99)).cell? ⟨K, 0, none⟩ = some (.int .i64 k) := (World.cell?_alloc_past _ _ _ hl).trans hK
  have b0 : Below w.heap.size w (w.alloc (.cells #[.int .i64 p.id, .int .i64 p.n, .string p.s, .string p.t] 99)) := (Below.refl _ _).alloc (Nat.le_refl _) _
  obtain ⟨t, ht⟩ : ∃ t, alw k p.id = t := ⟨_, rfl⟩
  have CA : ∀ X : World, Calls Tryd.prog 69 #[.int .i64 k, .int .i64 p.id] X fun e w' => e = .returned (.bool t) ∧ Below X.heap.size X w' := fun X => by rw [← ht]; exact allowed_any k p.id X
  rw [ht]
  have CA := Lib.hid CA
  have B0 := Lib.hid b0
  clear ht b0
  cases t
  · go_enter Tryd.func68, Tryd.ntmps68
    go_wp2_with fail
    (with_reducible refine (CA.out _).mono ?_)
    rintro e w1 ⟨rfl, b1⟩
    go_wp2
    go_ret
    exact ⟨rfl, B0.out.trans (b1.mono B0.out.size)⟩
  · go_enter Tryd.func68, Tryd.ntmps68
    go_wp2_with fail
    (with_reducible refine (CA.out _).mono ?_)
    rintro e w1 ⟨rfl, b1⟩
    go_wp2
    go_ret
    exact ⟨rfl, B0.out.trans (b1.mono B0.out.size)⟩
theorem pcontains_any (fn : Nat) (first cp : Array Value) (q : Pp → Bool) (A : Option Addr) (n cap : Nat) (L : List Pp) (w : World) (hn : L.length = n) (hm : n ≤ 1048576) (h : PRow w A L)
    (he : ∀ args w, (callFunc fn args).run Tryd.prog w = .ok (.enter fn args) w)
    (hf : ∀ (p : Pp) (W : World), Below w.heap.size w W → Calls Tryd.prog fn (first.push (.agg #[.int .i64 p.id, .int .i64 p.n, .string p.s, .string p.t]) ++ cp) W fun e w' => e = .returned (.bool (q p)) ∧ Below W.heap.size W w') :
    Calls Tryd.prog 67 #[.slice A n cap, .func (.func fn) first cp] w fun e w' => e = .returned (.bool (L.any q)) ∧ Below w.heap.size w w' := by
  have C := Lib.hid (pindex_any fn first cp q A n cap L w hn hm h he hf)
  have hany : L.any q = (L.find? q).isSome := by rw [List.isSome_find?]
  rw [hany]
  clear hany
  obtain ⟨t, ht⟩ : ∃ t, (L.find? q).isSome = t := ⟨_, rfl⟩
  rw [ht]
  have HT := Lib.hid ht
  clear ht h hn hf
  cases t
  · go_enter Tryd.func67, Tryd.ntmps67
    go_wp2_with fail
    (with_reducible refine C.out.mono ?_)
    rintro e w1 ⟨z, rfl, hz, b1⟩
    have hz1 : z < 0 := by
      rcases hz with ⟨rfl, _⟩ | ⟨k, p, rfl, _, hs⟩
      · decide
      · have := HT.out; rw [hs] at this; cases this
    have hz2 : decide ((0 : Int) ≤ z) = false := by rw [decide_eq_false_iff_not]; omega
    clear hz hz1
    go_wp2
    go_ret
    exact ⟨rfl, b1⟩
  · go_enter Tryd.func67, Tryd.ntmps67
    go_wp2_with fail
    (with_reducible refine C.out.mono ?_)
    rintro e w1 ⟨z, rfl, hz, b1⟩
    have hz1 : 0 ≤ z := by
      rcases hz with ⟨rfl, hs⟩ | ⟨k, p, rfl, _, hs⟩
      · have := HT.out; rw [hs] at this; cases this
      · omega
    clear hz
    go_wp2
    go_ret
    exact ⟨rfl, b1⟩
set_option maxHeartbeats 1000000 in
theorem wprops_any (W0 : World) (b : Nat) (o : Ot) (k : Int) (A : Option Addr) (n cap : Nat) (L : List Pp) (w : World) (hn : L.length = n) (hc : n ≤ cap) (hm : n ≤ 1048576) (hL : PRow W0 A L) (hz : ∀ p ∈ L, p.fits) (hs : o.s.size ≤ 1099511627776) (h : Wst W0 b o w) (hT : Tabs W0) :
    Calls Tryd.prog 34 #[.pointer (some ⟨b, 0, none⟩), .int .i64 k, .slice A n cap] w fun e w' => WPost W0 b (wProps k o L) w w' e := by
  have hK := Blk.new w #[.int .i64 k] 30
  have hA := h.alloc (.cells #[.int .i64 k] 30)
  have mA : ModT wT w (w.alloc (.cells #[.int .i64 k] 30)) := ModT.of_below ((Below.refl _ _).alloc (Nat.le_refl _) _)
  obtain ⟨W, hW⟩ : ∃ W, w.alloc (.cells #[.int .i64 k] 30) = W := ⟨_, rfl⟩
  rw [hW] at hK hA mA
  have CP := Lib.hid (pput_any A n cap L W hn hc hm (hL.below hA.below) hz (hT.below hA.below))
  have HW := Lib.hid hW
  have HK := Lib.hid hK
  have HA := Lib.hid hA
  have MA := Lib.hid mA
  have HL := Lib.hid hL
  have HN := Lib.hid hn
  have HS := Lib.hid hs
  obtain ⟨t, ht⟩ : ∃ t, (L.any fun p => !alw k p.id) = t := ⟨_, rfl⟩
  have CC : ∀ X : World, Below W0.heap.size W0 X → Blk X w.heap.size #[.int .i64 k] 30 → Calls Tryd.prog 67 #[.slice A n cap, .func (.func 68) #[] #[.pointer (some ⟨w.heap.size, 0, none⟩)]] X fun e w' => e = .returned (.bool t) ∧ Below X.heap.size X w' := fun X hx hk => by
    rw [← ht]
    exact pcontains_any 68 #[] #[.pointer (some ⟨w.heap.size, 0, none⟩)] (fun p => !alw k p.id) A n cap L X hn hm (hL.below hx) (enters_of Tryd.func68 (by kernel_rfl) rfl) (fun p Y hy => propsC_any w.heap.size k p Y ((hk.of_below hy).cell 0) (hk.of_below hy).lt)
  have CC := Lib.hid CC
  have HT := Lib.hid ht
  clear hW hK hA mA hL hn hs h ht
  cases t
  · have e : wProps k o L = o.add (ppS L) (ppC L) := by unfold wProps okAll; rw [HT.out]; rfl
    rw [e]
    clear e
    go_enter Tryd.func34, Tryd.ntmps34
    go_wp2_with fail
    rw [HW.out]
    (with_reducible refine CP.out.mono ?_)
    rintro e w1 ⟨rfl, b1⟩
    have H1 := Lib.hid (HA.out.step b1)
    have K1 := Lib.hid (HK.out.of_below b1)
    have M1 := Lib.hid (MA.out.trans (ModT.of_below b1))
    have CQ := Lib.hid (wpart_any W0 b o (ppS L) (ppC L) w1 (by have := HS.out; have h2 := ppS_small L; omega) H1.out)
    clear b1
    go_wp2_with fail
    (with_reducible refine CQ.out.mono ?_)
    rintro e w2 ⟨rfl, h2, m2⟩
    have H2 := Lib.hid h2
    have K2 := Lib.hid (K1.out.modT m2 (by unfold wT; decide))
    have M2 := Lib.hid (M1.out.trans m2)
    have CD := Lib.hid (CC.out w2 H2.out.below K2.out)
    clear h2 m2
    go_wp2_with fail
    (with_reducible refine CD.out.mono ?_)
    rintro e w3 ⟨rfl, b3⟩
    go_wp2
    go_end0
    exact ⟨rfl, H2.out.step b3, M2.out.trans (ModT.of_below b3)⟩
  · have e : wProps k o L = (o.add (ppS L) (ppC L)).fail 130 := by unfold wProps okAll; rw [HT.out]; rfl
    rw [e]
    clear e
    go_enter Tryd.func34, Tryd.ntmps34
    go_wp2_with fail
    rw [HW.out]
    (with_reducible refine CP.out.mono ?_)
    rintro e w1 ⟨rfl, b1⟩
    have H1 := Lib.hid (HA.out.step b1)
    have K1 := Lib.hid (HK.out.of_below b1)
    have M1 := Lib.hid (MA.out.trans (ModT.of_below b1))
    have CQ := Lib.hid (wpart_any W0 b o (ppS L) (ppC L) w1 (by have := HS.out; have h2 := ppS_small L; omega) H1.out)
    clear b1
    go_wp2_with fail
    (with_reducible refine CQ.out.mono ?_)
    rintro e w2 ⟨rfl, h2, m2⟩
    have H2 := Lib.hid h2
    have K2 := Lib.hid (K1.out.modT m2 (by unfold wT; decide))
    have M2 := Lib.hid (M1.out.trans m2)
    have CD := Lib.hid (CC.out w2 H2.out.below K2.out)
    clear h2 m2
    go_wp2_with fail
    (with_reducible refine CD.out.mono ?_)
    rintro e w3 ⟨rfl, b3⟩
    have M3 := Lib.hid (M2.out.trans (ModT.of_below b3))
    have CF := Lib.hid (wfail_any W0 b _ 130 w3 (H2.out.step b3))
    clear b3
    go_wp2_with fail
    (with_reducible refine CF.out.mono ?_)
    rintro e w4 ⟨rfl, h4, m4⟩
    go_wp2
    go_end0
    exact ⟨rfl, h4, M3.out.trans m4⟩
end Go.Proofs.YtlnanenfpapfkaaDoor

/- The walks of a writer's publish, end. -/
set_option linter.unusedVariables false
namespace Go.Proofs.YtlnanenfpapfkaaDoor
open Go.Shelf Go.RowKit Pl

set_option maxRecDepth 100000 in
set_option maxHeartbeats 4000000 in
theorem wpublish_any (W0 : World) (b : Nat) (o : Ot) (p : Pk) (m : Hs) (w : World) (hP : PkIn .u8 W0 p m) (hs : o.s.size ≤ 1048576) (h : Wst W0 b o w) (hT : Tabs W0) :
    Calls Tryd.prog 35 #[.pointer (some ⟨b, 0, none⟩), pkV .u8 p m] w fun e w' => WPost W0 b (wPublish o p) w w' e := by
  have hB := Blk.new w (pkA .u8 p m) 38
  have hA := h.alloc (.cells (pkA .u8 p m) 38)
  have mA : ModT wT w (w.alloc (.cells (pkA .u8 p m) 38)) := ModT.of_below ((Below.refl _ _).alloc (Nat.le_refl _) _)
  obtain ⟨W, hW⟩ : ∃ W, w.alloc (.cells (pkA .u8 p m) 38) = W := ⟨_, rfl⟩
  rw [hW] at hB hA mA
  unfold pkA at hW
  have HW := Lib.hid hW
  have HB := Lib.hid hB
  have HA := Lib.hid hA
  have MA := Lib.hid mA
  have HP := Lib.hid hP
  have HS := Lib.hid hs
  have ct := Lib.hid (wtext_any W0 b o p.topic W (by have := hP.fits.topic; omega) (by omega) hA hT)
  have c5 : W.cell? ⟨w.heap.size, 5, none⟩ = some (.string p.topic) := hB.cell 5
  clear hW hB hA mA hP hs h
  unfold pkV pkA
  by_cases hq : 0 < p.q
  · go_enter Tryd.func35, Tryd.ntmps35
    go_wp2_with fail
    rw [HW.out]
    (with_reducible refine ct.out.mono ?_)
    rintro e w1 ⟨rfl, h1, m1⟩
    have B1 := Lib.hid (HB.out.modT m1 (by unfold wT; decide))
    have M1 := Lib.hid (MA.out.trans m1)
    have d3 : w1.cell? ⟨w.heap.size, 3, none⟩ = some (.int .i64 p.q) := B1.out.cell 3
    have d4 : w1.cell? ⟨w.heap.size, 4, none⟩ = some (.int .i64 p.id) := B1.out.cell 4
    have z1 := text_size o p.topic
    have ci := Lib.hid (wid_any W0 b _ p.id w1 (by have := HS.out; omega) h1)
    clear h1 m1
    go_wp2_with fail
    (with_reducible refine ci.out.mono ?_)
    rintro e w2 ⟨rfl, h2, m2⟩
    have B2 := Lib.hid (B1.out.modT m2 (by unfold wT; decide))
    have M2 := Lib.hid (M1.out.trans m2)
    have d9 : w2.cell? ⟨w.heap.size, 9, none⟩ = some (.slice m.p.A m.p.n m.p.cap) := B2.out.cell 9
    have z2 := id_size (wText o p.topic) p.id
    have cp := Lib.hid (wprops_any W0 b _ 3 m.p.A m.p.n m.p.cap p.ps w2 HP.out.pn HP.out.pc (by have := HP.out.fits.ps.1; have := HP.out.pn; omega) HP.out.pr HP.out.fits.ps.2 (by have := HS.out; omega) h2 hT)
    clear h2 m2
    go_wp2_with fail
    (with_reducible refine cp.out.mono ?_)
    rintro e w3 ⟨rfl, h3, m3⟩
    have B3 := Lib.hid (B2.out.modT m3 (by unfold wT; decide))
    have M3 := Lib.hid (M2.out.trans m3)
    have d6 : w3.cell? ⟨w.heap.size, 6, none⟩ = some (.string p.payload) := B3.out.cell 6
    have z3 := props_size 3 (wId (wText o p.topic) p.id) p.ps
    have cl := Lib.hid (wpart_any W0 b _ p.payload 0 w3 (by have := HS.out; have := HP.out.fits.payload; omega) h3)
    clear h3 m3
    go_wp2_with fail
    (with_reducible refine cl.out.mono ?_)
    rintro e w4 ⟨rfl, h4, m4⟩
    go_wp2
    go_end0
    refine ⟨rfl, ?_, M3.out.trans m4⟩
    have e : wPublish o p = (wProps 3 (wId (wText o p.topic) p.id) p.ps).add p.payload 0 := by unfold wPublish; rw [if_pos hq]
    rw [e]
    exact h4
  · go_enter Tryd.func35, Tryd.ntmps35
    go_wp2_with fail
    rw [HW.out]
    (with_reducible refine ct.out.mono ?_)
    rintro e w1 ⟨rfl, h2, m1⟩
    have B2 := Lib.hid (HB.out.modT m1 (by unfold wT; decide))
    have M2 := Lib.hid (MA.out.trans m1)
    have d3 : w1.cell? ⟨w.heap.size, 3, none⟩ = some (.int .i64 p.q) := B2.out.cell 3
    have d9 : w1.cell? ⟨w.heap.size, 9, none⟩ = some (.slice m.p.A m.p.n m.p.cap) := B2.out.cell 9
    have z2 := text_size o p.topic
    have cp := Lib.hid (wprops_any W0 b _ 3 m.p.A m.p.n m.p.cap p.ps w1 HP.out.pn HP.out.pc (by have := HP.out.fits.ps.1; have := HP.out.pn; omega) HP.out.pr HP.out.fits.ps.2 (by have := HS.out; omega) h2 hT)
    clear h2 m1
    go_wp2_with fail
    (with_reducible refine cp.out.mono ?_)
    rintro e w3 ⟨rfl, h3, m3⟩
    have B3 := Lib.hid (B2.out.modT m3 (by unfold wT; decide))
    have M3 := Lib.hid (M2.out.trans m3)
    have d6 : w3.cell? ⟨w.heap.size, 6, none⟩ = some (.string p.payload) := B3.out.cell 6
    have z3 := props_size 3 (wText o p.topic) p.ps
    have cl := Lib.hid (wpart_any W0 b _ p.payload 0 w3 (by have := HS.out; have := HP.out.fits.payload; omega) h3)
    clear h3 m3
    go_wp2_with fail
    (with_reducible refine cl.out.mono ?_)
    rintro e w4 ⟨rfl, h4, m4⟩
    go_wp2
    go_end0
    refine ⟨rfl, ?_, M3.out.trans m4⟩
    have e : wPublish o p = (wProps 3 (wText o p.topic) p.ps).add p.payload 0 := by unfold wPublish; rw [if_neg (by omega)]
    rw [e]
    exact h4
set_option maxRecDepth 100000 in
set_option maxHeartbeats 4000000 in
theorem wend_any (W0 : World) (b : Nat) (o : Ot) (p : Pk) (m : Hs) (w : World) (hP : PkIn .u8 W0 p m) (hs : o.s.size ≤ 1048576) (h : Wst W0 b o w) (hT : Tabs W0) :
    Calls Tryd.prog 37 #[.pointer (some ⟨b, 0, none⟩), pkV .u8 p m] w fun e w' => WPost W0 b (wEnd o p) w w' e := by
  have hB := Blk.new w (pkA .u8 p m) 38
  have hA := h.alloc (.cells (pkA .u8 p m) 38)
  have mA : ModT wT w (w.alloc (.cells (pkA .u8 p m) 38)) := ModT.of_below ((Below.refl _ _).alloc (Nat.le_refl _) _)
  obtain ⟨W, hW⟩ : ∃ W, w.alloc (.cells (pkA .u8 p m) 38) = W := ⟨_, rfl⟩
  rw [hW] at hB hA mA
  unfold pkA at hW
  have HW := Lib.hid hW
  have HB := Lib.hid hB
  have HA := Lib.hid hA
  have MA := Lib.hid mA
  have HP := Lib.hid hP
  have HS := Lib.hid hs
  have cb := Lib.hid (wbyte_any W0 b o p.code W (by omega) hA)
  have c7 : W.cell? ⟨w.heap.size, 7, none⟩ = some (.int .u8 p.code) := hB.cell 7
  have c9 : W.cell? ⟨w.heap.size, 9, none⟩ = some (.slice m.p.A m.p.n m.p.cap) := hB.cell 9
  have hpn := hP.pn
  have hcb := hP.fits.code
  obtain ⟨O, hO⟩ : ∃ O, wEnd o p = O := ⟨_, rfl⟩
  rw [hO]
  unfold wEnd at hO
  rw [hpn] at hO
  clear hW hB hA mA hP hs h hpn
  unfold pkV pkA
  by_cases hn : m.p.n = 0
  · rw [if_pos hn] at hO
    have hnI : ¬ (0 : Int) < (m.p.n : Int) := by omega
    have hnN : ¬ 0 < m.p.n := by omega
    by_cases hc : p.code = 0
    · rw [if_pos hc] at hO
      subst hO
      have hc1 : (p.code != 0) = false := by rw [hc]; rfl
      clear hc hn
      have hW2 := HW.out
      go_enter Tryd.func37, Tryd.ntmps37
      go_wp2
      go_end0
      exact ⟨rfl, HA.out, MA.out⟩
    · rw [if_neg hc] at hO
      subst hO
      have hc1 : (p.code != 0) = true := by rw [bne, beq_eq_false_iff_ne.2 hc]; rfl
      clear hc hn
      go_enter Tryd.func37, Tryd.ntmps37
      go_wp2_with fail
      rw [HW.out]
      (with_reducible refine cb.out.mono ?_)
      rintro e w1 ⟨rfl, h1, m1⟩
      have B1 := Lib.hid (HB.out.modT m1 (by unfold wT; decide))
      have M1 := Lib.hid (MA.out.trans m1)
      have H1 := Lib.hid h1
      have d0 : w1.cell? ⟨w.heap.size, 0, none⟩ = some (.int .i64 p.kind) := B1.out.cell 0
      have d9 : w1.cell? ⟨w.heap.size, 9, none⟩ = some (.slice m.p.A m.p.n m.p.cap) := B1.out.cell 9
      clear h1 m1
      go_wp2
      go_end0
      exact ⟨rfl, H1.out, M1.out⟩
  · rw [if_neg hn] at hO
    subst hO
    have hnI : (0 : Int) < (m.p.n : Int) := by omega
    have hnN : 0 < m.p.n := by omega
    clear hn
    by_cases hc : p.code = 0
    · have hc1 : (p.code != 0) = false := by rw [hc]; rfl
      clear hc
      go_enter Tryd.func37, Tryd.ntmps37
      go_wp2_with fail
      rw [HW.out]
      (with_reducible refine cb.out.mono ?_)
      rintro e w1 ⟨rfl, h1, m1⟩
      have B1 := Lib.hid (HB.out.modT m1 (by unfold wT; decide))
      have M1 := Lib.hid (MA.out.trans m1)
      have H1 := Lib.hid h1
      have d0 : w1.cell? ⟨w.heap.size, 0, none⟩ = some (.int .i64 p.kind) := B1.out.cell 0
      have d9 : w1.cell? ⟨w.heap.size, 9, none⟩ = some (.slice m.p.A m.p.n m.p.cap) := B1.out.cell 9
      have z2 := num_size 1 o p.code
      have cp := Lib.hid (wprops_any W0 b _ p.kind m.p.A m.p.n m.p.cap p.ps w1 HP.out.pn HP.out.pc (by have := HP.out.fits.ps.1; have := HP.out.pn; omega) HP.out.pr HP.out.fits.ps.2 (by have := HS.out; have : (1 : Int).toNat = 1 := rfl; omega) h1 hT)
      clear h1 m1
      go_wp2_with fail
      (with_reducible refine cp.out.mono ?_)
      rintro e w3 ⟨rfl, h3, m3⟩
      go_wp2
      go_end0
      exact ⟨rfl, h3, M1.out.trans m3⟩
    · have hc1 : (p.code != 0) = true := by rw [bne, beq_eq_false_iff_ne.2 hc]; rfl
      clear hc
      go_enter Tryd.func37, Tryd.ntmps37
      go_wp2_with fail
      rw [HW.out]
      (with_reducible refine cb.out.mono ?_)
      rintro e w1 ⟨rfl, h1, m1⟩
      have B1 := Lib.hid (HB.out.modT m1 (by unfold wT; decide))
      have M1 := Lib.hid (MA.out.trans m1)
      have H1 := Lib.hid h1
      have d0 : w1.cell? ⟨w.heap.size, 0, none⟩ = some (.int .i64 p.kind) := B1.out.cell 0
      have d9 : w1.cell? ⟨w.heap.size, 9, none⟩ = some (.slice m.p.A m.p.n m.p.cap) := B1.out.cell 9
      have z2 := num_size 1 o p.code
      have cp := Lib.hid (wprops_any W0 b _ p.kind m.p.A m.p.n m.p.cap p.ps w1 HP.out.pn HP.out.pc (by have := HP.out.fits.ps.1; have := HP.out.pn; omega) HP.out.pr HP.out.fits.ps.2 (by have := HS.out; have : (1 : Int).toNat = 1 := rfl; omega) h1 hT)
      clear h1 m1
      go_wp2_with fail
      (with_reducible refine cp.out.mono ?_)
      rintro e w3 ⟨rfl, h3, m3⟩
      go_wp2
      go_end0
      exact ⟨rfl, h3, M1.out.trans m3⟩
end Go.Proofs.YtlnanenfpapfkaaDoor
