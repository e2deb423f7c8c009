/- The walks of packet.Allowed and of the document's Allowed. -/
import Derived.Test.YthdbkpapkheefaaRows
import Derived.Test.YthdbkpapkheefaaAllowPlain
import Derived.WalkLawsBesides
import Derived.WalkSpells
import Derived.Handy
namespace Go.Proofs.Ythdbkpapkheefaa
open Go.RowKit Pl

/-- The result is some integer of which P holds; the world is as it was. -/
def SomeInt (P : Int → Prop) (w : World) (e : Ending) (w' : World) : Prop := ∃ n : Int, P n ∧ e = .returned (.int .i64 n) ∧ w = w'

theorem index_hit (b : Nat) (l : List Int) (n : Int) (w : World) (hl : l.length ≤ 1000) (hc : ∀ j, j < l.length → w.cell? ⟨b, j, none⟩ = some (.int .i64 (l.getD j 0))) (hin : isIn n l = true) :
    Calls Try.prog 25 #[.slice (some ⟨b, 0, none⟩) l.length l.length, .int .i64 n] w (SomeInt (fun r => 0 ≤ r) w) := by
  have Hc := Lib.hid hc
  clear hc
  go_enter Try.func25, Try.ntmps25
  go_wp2
  go_loop [8] (fun i => ∃ k : Nat, i = .int .i64 k ∧ k ≤ l.length ∧ Hid (∀ j, j < k → l.getD j 0 ≠ n)) (fun i => l.length - (intOf i).toNat)
  case atStart => exact ⟨0, rfl, by omega, fun j hj => absurd hj (by omega)⟩
  case round =>
    obtain ⟨k, rfl, hk, hno⟩ := hrel
    by_cases hlt : k < l.length
    · have hcell := Hc.out k hlt
      obtain ⟨x, hx⟩ : ∃ x, l.getD k 0 = x := ⟨_, rfl⟩
      rw [hx] at hcell
      have Hx := Lib.hid hx
      clear hx
      by_cases he : n = x
      · subst he
        go_wp2
        go_ret
        exact ⟨k, by omega, rfl, rfl⟩
      · have hne : (n == x) = false := by rw [beq_eq_false_iff_ne]; exact he
        go_wp2
        go_round
        case rel => exact ⟨k + 1, by go_num, by omega, fun j hj => by
          by_cases hjk : j = k
          · subst hjk; rw [Hx.out]; exact fun h => he h.symm
          · exact hno.out j (by omega)⟩
        case measure => simp [intOf]; omega
    · exfalso
      have := isIn_none (n := n) (l := l) fun j hj => hno.out j (by omega)
      rw [this] at hin
      exact absurd hin (by decide)

theorem index_none (b : Nat) (l : List Int) (n : Int) (w : World) (hl : l.length ≤ 1000) (hc : ∀ j, j < l.length → w.cell? ⟨b, j, none⟩ = some (.int .i64 (l.getD j 0))) (hin : isIn n l = false) :
    Calls Try.prog 25 #[.slice (some ⟨b, 0, none⟩) l.length l.length, .int .i64 n] w fun e w' => e = .returned (.int .i64 (-1)) ∧ w = w' := by
  have Hc := Lib.hid hc
  have Hin := Lib.hid hin
  clear hc hin
  go_enter Try.func25, Try.ntmps25
  go_wp2
  go_loop [8] (fun i => ∃ k : Nat, i = .int .i64 k ∧ k ≤ l.length) (fun i => l.length - (intOf i).toNat)
  case atStart => exact ⟨0, rfl, by omega⟩
  case round =>
    obtain ⟨k, rfl, hk⟩ := hrel
    by_cases hlt : k < l.length
    · have hcell := Hc.out k hlt
      obtain ⟨x, hx⟩ : ∃ x, l.getD k 0 = x := ⟨_, rfl⟩
      rw [hx] at hcell
      have hne : (n == x) = false := by
        rw [beq_eq_false_iff_ne]
        intro he
        have := isIn_hit hlt (hx.trans he.symm)
        rw [Hin.out] at this
        exact absurd this (by decide)
      have Hx := Lib.hid hx
      clear hx
      go_wp2
      go_round
      case rel => exact ⟨k + 1, by go_num, by omega⟩
      case measure => simp [intOf]; omega
    · go_wp2
      go_ret
      exact ⟨rfl, rfl⟩

theorem contains_any (b : Nat) (l : List Int) (n : Int) (w : World) (hl : l.length ≤ 1000) (hc : ∀ j, j < l.length → w.cell? ⟨b, j, none⟩ = some (.int .i64 (l.getD j 0))) :
    Calls Try.prog 21 #[.slice (some ⟨b, 0, none⟩) l.length l.length, .int .i64 n] w fun e w' => e = .returned (.bool (isIn n l)) ∧ w = w' := by
  have Hc := Lib.hid hc
  clear hc
  by_cases hin : isIn n l = true
  · have Hin := Lib.hid hin
    clear hin
    go_enter Try.func21, Try.ntmps21
    go_wp2_with fail
    refine (index_hit b l n _ hl Hc.out Hin.out).mono ?_
    rintro e w' ⟨r, hr, rfl, rfl⟩
    go_wp2
    go_ret
    exact ⟨ret_bool Hin.out.symm, rfl⟩
  · have Hin := Lib.hid (by simpa using hin : isIn n l = false)
    clear hin
    go_enter Try.func21, Try.ntmps21
    go_wp2_with fail
    refine (index_none b l n _ hl Hc.out Hin.out).mono ?_
    rintro e w' ⟨rfl, rfl⟩
    go_wp2
    go_ret
    exact ⟨ret_bool Hin.out.symm, rfl⟩

theorem contains_nil (n : Int) (w : World) :
    Calls Try.prog 21 #[.slice none 0 0, .int .i64 n] w fun e w' => e = .returned (.bool false) ∧ w = w' := by
  go_enter Try.func21, Try.ntmps21
  go_wp2
  refine wp_loop_rounds 1 ?_
  rw [rounds_succ]
  go_wp2
  go_ret
  exact ⟨rfl, rfl⟩

theorem refin5_any (b : Nat) (l : List Int) (n : Int) (w : World) (hl : l.length ≤ 1000) (hc : ∀ j, j < l.length → w.cell? ⟨b, j, none⟩ = some (.int .i64 (l.getD j 0))) :
    Calls Try.prog 22 #[.int .i64 n, .slice (some ⟨b, 0, none⟩) l.length l.length] w fun e w' => e = .returned (.bool (isIn n l)) ∧ w = w' := by
  have Hc := Lib.hid hc
  clear hc
  go_enter Try.func22, Try.ntmps22
  go_wp2
  go_loop [5] (fun i => ∃ k : Nat, i = .int .i64 k ∧ k ≤ l.length ∧ Hid (∀ j, j < k → l.getD j 0 ≠ n)) (fun i => l.length - (intOf i).toNat)
  case atStart => exact ⟨0, rfl, by omega, fun j hj => absurd hj (by omega)⟩
  case round =>
    obtain ⟨k, rfl, hk, hno⟩ := hrel
    by_cases hlt : k < l.length
    · have hcell := Hc.out k hlt
      obtain ⟨x, hx⟩ : ∃ x, l.getD k 0 = x := ⟨_, rfl⟩
      rw [hx] at hcell
      have Hx := Lib.hid hx
      clear hx
      by_cases he : x = n
      · have hhit := Lib.hid (isIn_hit hlt (Hx.out.trans he))
        subst he
        go_wp2
        go_ret
        exact ⟨ret_bool hhit.out.symm, rfl⟩
      · have hne : (x == n) = false := by rw [beq_eq_false_iff_ne]; exact he
        go_wp2
        go_round
        case rel => exact ⟨k + 1, by go_num, by omega, fun j hj => by
          by_cases hjk : j = k
          · subst hjk; rw [Hx.out]; exact he
          · exact hno.out j (by omega)⟩
        case measure => simp [intOf]; omega
    · have hnone := Lib.hid (isIn_none (n := n) (l := l) fun j hj => hno.out j (by omega))
      go_wp2
      go_ret
      exact ⟨ret_bool hnone.out.symm, rfl⟩

theorem allowed_0 (n : Int) (w : World) : Calls Try.prog 14 #[.int .i64 0, .int .i64 n] w fun e w' => e = .returned (.bool (alw 0 n)) ∧ Below w.heap.size w w' := by
  go_enter Try.func14, Try.ntmps14
  go_wp2_with fail
  refine (contains_any _ [1, 2, 3, 8, 9, 24, 38] n _ (by decide) ?_).mono ?_
  · exact cells_new _ .i64 3 [1, 2, 3, 8, 9, 24, 38] _ (by simp)
  rintro e w' ⟨rfl, rfl⟩
  go_wp2
  go_ret
  exact ⟨rfl, by go_grown⟩

theorem allowed_1 (n : Int) (w : World) : Calls Try.prog 14 #[.int .i64 1, .int .i64 n] w fun e w' => e = .returned (.bool (alw 1 n)) ∧ Below w.heap.size w w' := by
  go_enter Try.func14, Try.ntmps14
  go_wp2_with fail
  refine (contains_any _ [17, 21, 22, 23, 25, 33, 34, 38, 39] n _ (by decide) ?_).mono ?_
  · exact cells_new _ .i64 3 [17, 21, 22, 23, 25, 33, 34, 38, 39] _ (by simp)
  rintro e w' ⟨rfl, rfl⟩
  go_wp2
  go_ret
  exact ⟨rfl, by go_grown⟩

theorem allowed_2 (n : Int) (w : World) : Calls Try.prog 14 #[.int .i64 2, .int .i64 n] w fun e w' => e = .returned (.bool (alw 2 n)) ∧ Below w.heap.size w w' := by
  go_enter Try.func14, Try.ntmps14
  go_wp2_with fail
  refine (contains_any _ [17, 18, 19, 21, 22, 26, 28, 31, 33, 34, 36, 37, 38, 39, 40, 41, 42] n _ (by decide) ?_).mono ?_
  · exact cells_new _ .i64 3 [17, 18, 19, 21, 22, 26, 28, 31, 33, 34, 36, 37, 38, 39, 40, 41, 42] _ (by simp)
  rintro e w' ⟨rfl, rfl⟩
  go_wp2
  go_ret
  exact ⟨rfl, by go_grown⟩

theorem allowed_3 (n : Int) (w : World) : Calls Try.prog 14 #[.int .i64 3, .int .i64 n] w fun e w' => e = .returned (.bool (alw 3 n)) ∧ Below w.heap.size w w' := by
  go_enter Try.func14, Try.ntmps14
  go_wp2_with fail
  refine (contains_any _ [1, 2, 3, 8, 9, 11, 35, 38] n _ (by decide) ?_).mono ?_
  · exact cells_new _ .i64 3 [1, 2, 3, 8, 9, 11, 35, 38] _ (by simp)
  rintro e w' ⟨rfl, rfl⟩
  go_wp2
  go_ret
  exact ⟨rfl, by go_grown⟩

theorem allowed_4 (n : Int) (w : World) : Calls Try.prog 14 #[.int .i64 4, .int .i64 n] w fun e w' => e = .returned (.bool (alw 4 n)) ∧ Below w.heap.size w w' := by
  go_enter Try.func14, Try.ntmps14
  go_wp2_with fail
  refine (contains_any _ [31, 38] n _ (by decide) ?_).mono ?_
  · exact cells_new _ .i64 3 [31, 38] _ (by simp)
  rintro e w' ⟨rfl, rfl⟩
  go_wp2
  go_ret
  exact ⟨rfl, by go_grown⟩

theorem allowed_5 (n : Int) (w : World) : Calls Try.prog 14 #[.int .i64 5, .int .i64 n] w fun e w' => e = .returned (.bool (alw 5 n)) ∧ Below w.heap.size w w' := by
  go_enter Try.func14, Try.ntmps14
  go_wp2_with fail
  refine (contains_any _ [31, 38] n _ (by decide) ?_).mono ?_
  · exact cells_new _ .i64 3 [31, 38] _ (by simp)
  rintro e w' ⟨rfl, rfl⟩
  go_wp2
  go_ret
  exact ⟨rfl, by go_grown⟩

theorem allowed_6 (n : Int) (w : World) : Calls Try.prog 14 #[.int .i64 6, .int .i64 n] w fun e w' => e = .returned (.bool (alw 6 n)) ∧ Below w.heap.size w w' := by
  go_enter Try.func14, Try.ntmps14
  go_wp2_with fail
  refine (contains_any _ [31, 38] n _ (by decide) ?_).mono ?_
  · exact cells_new _ .i64 3 [31, 38] _ (by simp)
  rintro e w' ⟨rfl, rfl⟩
  go_wp2
  go_ret
  exact ⟨rfl, by go_grown⟩

theorem allowed_7 (n : Int) (w : World) : Calls Try.prog 14 #[.int .i64 7, .int .i64 n] w fun e w' => e = .returned (.bool (alw 7 n)) ∧ Below w.heap.size w w' := by
  go_enter Try.func14, Try.ntmps14
  go_wp2_with fail
  refine (contains_any _ [31, 38] n _ (by decide) ?_).mono ?_
  · exact cells_new _ .i64 3 [31, 38] _ (by simp)
  rintro e w' ⟨rfl, rfl⟩
  go_wp2
  go_ret
  exact ⟨rfl, by go_grown⟩

theorem allowed_8 (n : Int) (w : World) : Calls Try.prog 14 #[.int .i64 8, .int .i64 n] w fun e w' => e = .returned (.bool (alw 8 n)) ∧ Below w.heap.size w w' := by
  go_enter Try.func14, Try.ntmps14
  go_wp2_with fail
  refine (contains_any _ [11, 38] n _ (by decide) ?_).mono ?_
  · exact cells_new _ .i64 3 [11, 38] _ (by simp)
  rintro e w' ⟨rfl, rfl⟩
  go_wp2
  go_ret
  exact ⟨rfl, by go_grown⟩

theorem allowed_9 (n : Int) (w : World) : Calls Try.prog 14 #[.int .i64 9, .int .i64 n] w fun e w' => e = .returned (.bool (alw 9 n)) ∧ Below w.heap.size w w' := by
  go_enter Try.func14, Try.ntmps14
  go_wp2_with fail
  refine (contains_any _ [31, 38] n _ (by decide) ?_).mono ?_
  · exact cells_new _ .i64 3 [31, 38] _ (by simp)
  rintro e w' ⟨rfl, rfl⟩
  go_wp2
  go_ret
  exact ⟨rfl, by go_grown⟩

theorem allowed_10 (n : Int) (w : World) : Calls Try.prog 14 #[.int .i64 10, .int .i64 n] w fun e w' => e = .returned (.bool (alw 10 n)) ∧ Below w.heap.size w w' := by
  go_enter Try.func14, Try.ntmps14
  go_wp2_with fail
  refine (contains_any _ [38] n _ (by decide) ?_).mono ?_
  · exact cells_new _ .i64 3 [38] _ (by simp)
  rintro e w' ⟨rfl, rfl⟩
  go_wp2
  go_ret
  exact ⟨rfl, by go_grown⟩

theorem allowed_11 (n : Int) (w : World) : Calls Try.prog 14 #[.int .i64 11, .int .i64 n] w fun e w' => e = .returned (.bool (alw 11 n)) ∧ Below w.heap.size w w' := by
  go_enter Try.func14, Try.ntmps14
  go_wp2_with fail
  refine (contains_any _ [31, 38] n _ (by decide) ?_).mono ?_
  · exact cells_new _ .i64 3 [31, 38] _ (by simp)
  rintro e w' ⟨rfl, rfl⟩
  go_wp2
  go_ret
  exact ⟨rfl, by go_grown⟩

theorem allowed_14 (n : Int) (w : World) : Calls Try.prog 14 #[.int .i64 14, .int .i64 n] w fun e w' => e = .returned (.bool (alw 14 n)) ∧ Below w.heap.size w w' := by
  go_enter Try.func14, Try.ntmps14
  go_wp2_with fail
  refine (contains_any _ [17, 28, 31, 38] n _ (by decide) ?_).mono ?_
  · exact cells_new _ .i64 3 [17, 28, 31, 38] _ (by simp)
  rintro e w' ⟨rfl, rfl⟩
  go_wp2
  go_ret
  exact ⟨rfl, by go_grown⟩

theorem allowed_15 (n : Int) (w : World) : Calls Try.prog 14 #[.int .i64 15, .int .i64 n] w fun e w' => e = .returned (.bool (alw 15 n)) ∧ Below w.heap.size w w' := by
  go_enter Try.func14, Try.ntmps14
  go_wp2_with fail
  refine (contains_any _ [21, 22, 31, 38] n _ (by decide) ?_).mono ?_
  · exact cells_new _ .i64 3 [21, 22, 31, 38] _ (by simp)
  rintro e w' ⟨rfl, rfl⟩
  go_wp2
  go_ret
  exact ⟨rfl, by go_grown⟩

theorem allowed_other (k n : Int) (w : World) (h0 : (k == 0) = false) (h1 : (k == 1) = false) (h2 : (k == 2) = false) (h3 : (k == 3) = false) (h4 : (k == 4) = false) (h5 : (k == 5) = false) (h6 : (k == 6) = false) (h7 : (k == 7) = false) (h8 : (k == 8) = false) (h9 : (k == 9) = false) (h10 : (k == 10) = false) (h11 : (k == 11) = false) (h14 : (k == 14) = false) (h15 : (k == 15) = false) : Calls Try.prog 14 #[.int .i64 k, .int .i64 n] w fun e w' => e = .returned (.bool (alw k n)) ∧ Below w.heap.size w w' := by
  have hn := Lib.hid (alw_other n h0 h1 h2 h3 h4 h5 h6 h7 h8 h9 h10 h11 h14 h15)
  go_enter Try.func14, Try.ntmps14
  go_wp2_with fail
  refine (contains_nil n _).mono ?_
  rintro e w' ⟨rfl, rfl⟩
  go_wp2
  go_ret
  exact ⟨ret_bool hn.out.symm, Below.refl _ _⟩

theorem allowed_any (k n : Int) (w : World) : Calls Try.prog 14 #[.int .i64 k, .int .i64 n] w fun e w' => e = .returned (.bool (alw k n)) ∧ Below w.heap.size w w' := by
  by_cases h0 : k = 0
  · subst h0; exact allowed_0 n w
  by_cases h1 : k = 1
  · subst h1; exact allowed_1 n w
  by_cases h2 : k = 2
  · subst h2; exact allowed_2 n w
  by_cases h3 : k = 3
  · subst h3; exact allowed_3 n w
  by_cases h4 : k = 4
  · subst h4; exact allowed_4 n w
  by_cases h5 : k = 5
  · subst h5; exact allowed_5 n w
  by_cases h6 : k = 6
  · subst h6; exact allowed_6 n w
  by_cases h7 : k = 7
  · subst h7; exact allowed_7 n w
  by_cases h8 : k = 8
  · subst h8; exact allowed_8 n w
  by_cases h9 : k = 9
  · subst h9; exact allowed_9 n w
  by_cases h10 : k = 10
  · subst h10; exact allowed_10 n w
  by_cases h11 : k = 11
  · subst h11; exact allowed_11 n w
  by_cases h14 : k = 14
  · subst h14; exact allowed_14 n w
  by_cases h15 : k = 15
  · subst h15; exact allowed_15 n w
  exact allowed_other k n w (beq_eq_false_iff_ne.2 h0) (beq_eq_false_iff_ne.2 h1) (beq_eq_false_iff_ne.2 h2) (beq_eq_false_iff_ne.2 h3) (beq_eq_false_iff_ne.2 h4) (beq_eq_false_iff_ne.2 h5) (beq_eq_false_iff_ne.2 h6) (beq_eq_false_iff_ne.2 h7) (beq_eq_false_iff_ne.2 h8) (beq_eq_false_iff_ne.2 h9) (beq_eq_false_iff_ne.2 h10) (beq_eq_false_iff_ne.2 h11) (beq_eq_false_iff_ne.2 h14) (beq_eq_false_iff_ne.2 h15)

theorem refallowed_0 (n : Int) (w : World) : Calls Try.prog 15 #[.int .i64 0, .int .i64 n] w fun e w' => e = .returned (.bool (alw 0 n)) ∧ Below w.heap.size w w' := by
  go_enter Try.func15, Try.ntmps15
  go_wp2_with fail
  refine (refin5_any _ [1, 2, 3, 8, 9, 24, 38] n _ (by decide) ?_).mono ?_
  · exact cells_new _ .i64 3 [1, 2, 3, 8, 9, 24, 38] _ (by simp)
  rintro e w' ⟨rfl, rfl⟩
  go_wp2
  go_ret
  exact ⟨rfl, by go_grown⟩

theorem refallowed_1 (n : Int) (w : World) : Calls Try.prog 15 #[.int .i64 1, .int .i64 n] w fun e w' => e = .returned (.bool (alw 1 n)) ∧ Below w.heap.size w w' := by
  go_enter Try.func15, Try.ntmps15
  go_wp2_with fail
  refine (refin5_any _ [17, 21, 22, 23, 25, 33, 34, 38, 39] n _ (by decide) ?_).mono ?_
  · exact cells_new _ .i64 3 [17, 21, 22, 23, 25, 33, 34, 38, 39] _ (by simp)
  rintro e w' ⟨rfl, rfl⟩
  go_wp2
  go_ret
  exact ⟨rfl, by go_grown⟩

theorem refallowed_2 (n : Int) (w : World) : Calls Try.prog 15 #[.int .i64 2, .int .i64 n] w fun e w' => e = .returned (.bool (alw 2 n)) ∧ Below w.heap.size w w' := by
  rw [alw_2 n]
  obtain ⟨a, ha⟩ : ∃ a, isIn n [17, 18, 19, 21, 22, 26, 28, 31, 33, 34] = a := ⟨_, rfl⟩
  rw [ha]
  cases a
  all_goals
    go_enter Try.func15, Try.ntmps15
    go_wp2_with fail
    refine (refin5_any _ [17, 18, 19, 21, 22, 26, 28, 31, 33, 34] n _ (by decide) ?_).mono ?_
    · exact cells_new _ .i64 3 [17, 18, 19, 21, 22, 26, 28, 31, 33, 34] _ (by simp)
    rintro e w' ⟨rfl, rfl⟩
    rw [ha]
    go_wp2
    all_goals go_ret
    all_goals exact ⟨by first | rfl | (simp; done) | (simp; omega), by go_grown⟩

theorem refallowed_3 (n : Int) (w : World) : Calls Try.prog 15 #[.int .i64 3, .int .i64 n] w fun e w' => e = .returned (.bool (alw 3 n)) ∧ Below w.heap.size w w' := by
  go_enter Try.func15, Try.ntmps15
  go_wp2_with fail
  refine (refin5_any _ [1, 2, 3, 8, 9, 11, 35, 38] n _ (by decide) ?_).mono ?_
  · exact cells_new _ .i64 3 [1, 2, 3, 8, 9, 11, 35, 38] _ (by simp)
  rintro e w' ⟨rfl, rfl⟩
  go_wp2
  go_ret
  exact ⟨rfl, by go_grown⟩

theorem refallowed_4 (n : Int) (w : World) : Calls Try.prog 15 #[.int .i64 4, .int .i64 n] w fun e w' => e = .returned (.bool (alw 4 n)) ∧ Below w.heap.size w w' := by
  have hn := Lib.hid (show alw 4 n = _ from isIn_two n 31 38)
  go_enter Try.func15, Try.ntmps15
  go_wp2
  all_goals go_ret
  all_goals exact ⟨by first | exact ret_bool hn.out.symm | (rw [hn.out]; simp [*]), Below.refl _ _⟩

theorem refallowed_5 (n : Int) (w : World) : Calls Try.prog 15 #[.int .i64 5, .int .i64 n] w fun e w' => e = .returned (.bool (alw 5 n)) ∧ Below w.heap.size w w' := by
  have hn := Lib.hid (show alw 5 n = _ from isIn_two n 31 38)
  go_enter Try.func15, Try.ntmps15
  go_wp2
  all_goals go_ret
  all_goals exact ⟨by first | exact ret_bool hn.out.symm | (rw [hn.out]; simp [*]), Below.refl _ _⟩

theorem refallowed_6 (n : Int) (w : World) : Calls Try.prog 15 #[.int .i64 6, .int .i64 n] w fun e w' => e = .returned (.bool (alw 6 n)) ∧ Below w.heap.size w w' := by
  have hn := Lib.hid (show alw 6 n = _ from isIn_two n 31 38)
  go_enter Try.func15, Try.ntmps15
  go_wp2
  all_goals go_ret
  all_goals exact ⟨by first | exact ret_bool hn.out.symm | (rw [hn.out]; simp [*]), Below.refl _ _⟩

theorem refallowed_7 (n : Int) (w : World) : Calls Try.prog 15 #[.int .i64 7, .int .i64 n] w fun e w' => e = .returned (.bool (alw 7 n)) ∧ Below w.heap.size w w' := by
  have hn := Lib.hid (show alw 7 n = _ from isIn_two n 31 38)
  go_enter Try.func15, Try.ntmps15
  go_wp2
  all_goals go_ret
  all_goals exact ⟨by first | exact ret_bool hn.out.symm | (rw [hn.out]; simp [*]), Below.refl _ _⟩

theorem refallowed_8 (n : Int) (w : World) : Calls Try.prog 15 #[.int .i64 8, .int .i64 n] w fun e w' => e = .returned (.bool (alw 8 n)) ∧ Below w.heap.size w w' := by
  have hn := Lib.hid (show alw 8 n = _ from isIn_two n 11 38)
  go_enter Try.func15, Try.ntmps15
  go_wp2
  all_goals go_ret
  all_goals exact ⟨by first | exact ret_bool hn.out.symm | (rw [hn.out]; simp [*]), Below.refl _ _⟩

theorem refallowed_9 (n : Int) (w : World) : Calls Try.prog 15 #[.int .i64 9, .int .i64 n] w fun e w' => e = .returned (.bool (alw 9 n)) ∧ Below w.heap.size w w' := by
  have hn := Lib.hid (show alw 9 n = _ from isIn_two n 31 38)
  go_enter Try.func15, Try.ntmps15
  go_wp2
  all_goals go_ret
  all_goals exact ⟨by first | exact ret_bool hn.out.symm | (rw [hn.out]; simp [*]), Below.refl _ _⟩

theorem refallowed_10 (n : Int) (w : World) : Calls Try.prog 15 #[.int .i64 10, .int .i64 n] w fun e w' => e = .returned (.bool (alw 10 n)) ∧ Below w.heap.size w w' := by
  have hn := Lib.hid (show alw 10 n = _ from isIn_one n 38)
  go_enter Try.func15, Try.ntmps15
  go_wp2
  all_goals go_ret
  all_goals exact ⟨by first | exact ret_bool hn.out.symm | (rw [hn.out]; simp [*]), Below.refl _ _⟩

theorem refallowed_11 (n : Int) (w : World) : Calls Try.prog 15 #[.int .i64 11, .int .i64 n] w fun e w' => e = .returned (.bool (alw 11 n)) ∧ Below w.heap.size w w' := by
  have hn := Lib.hid (show alw 11 n = _ from isIn_two n 31 38)
  go_enter Try.func15, Try.ntmps15
  go_wp2
  all_goals go_ret
  all_goals exact ⟨by first | exact ret_bool hn.out.symm | (rw [hn.out]; simp [*]), Below.refl _ _⟩

theorem refallowed_14 (n : Int) (w : World) : Calls Try.prog 15 #[.int .i64 14, .int .i64 n] w fun e w' => e = .returned (.bool (alw 14 n)) ∧ Below w.heap.size w w' := by
  go_enter Try.func15, Try.ntmps15
  go_wp2_with fail
  refine (refin5_any _ [17, 28, 31, 38] n _ (by decide) ?_).mono ?_
  · exact cells_new _ .i64 3 [17, 28, 31, 38] _ (by simp)
  rintro e w' ⟨rfl, rfl⟩
  go_wp2
  go_ret
  exact ⟨rfl, by go_grown⟩

theorem refallowed_15 (n : Int) (w : World) : Calls Try.prog 15 #[.int .i64 15, .int .i64 n] w fun e w' => e = .returned (.bool (alw 15 n)) ∧ Below w.heap.size w w' := by
  go_enter Try.func15, Try.ntmps15
  go_wp2_with fail
  refine (refin5_any _ [21, 22, 31, 38] n _ (by decide) ?_).mono ?_
  · exact cells_new _ .i64 3 [21, 22, 31, 38] _ (by simp)
  rintro e w' ⟨rfl, rfl⟩
  go_wp2
  go_ret
  exact ⟨rfl, by go_grown⟩

theorem refallowed_other (k n : Int) (w : World) (h0 : (k == 0) = false) (h1 : (k == 1) = false) (h2 : (k == 2) = false) (h3 : (k == 3) = false) (h4 : (k == 4) = false) (h5 : (k == 5) = false) (h6 : (k == 6) = false) (h7 : (k == 7) = false) (h8 : (k == 8) = false) (h9 : (k == 9) = false) (h10 : (k == 10) = false) (h11 : (k == 11) = false) (h14 : (k == 14) = false) (h15 : (k == 15) = false) : Calls Try.prog 15 #[.int .i64 k, .int .i64 n] w fun e w' => e = .returned (.bool (alw k n)) ∧ Below w.heap.size w w' := by
  have hn := Lib.hid (alw_other n h0 h1 h2 h3 h4 h5 h6 h7 h8 h9 h10 h11 h14 h15)
  go_enter Try.func15, Try.ntmps15
  go_wp2
  go_ret
  exact ⟨ret_bool hn.out.symm, Below.refl _ _⟩

theorem refallowed_any (k n : Int) (w : World) : Calls Try.prog 15 #[.int .i64 k, .int .i64 n] w fun e w' => e = .returned (.bool (alw k n)) ∧ Below w.heap.size w w' := by
  by_cases h0 : k = 0
  · subst h0; exact refallowed_0 n w
  by_cases h1 : k = 1
  · subst h1; exact refallowed_1 n w
  by_cases h2 : k = 2
  · subst h2; exact refallowed_2 n w
  by_cases h3 : k = 3
  · subst h3; exact refallowed_3 n w
  by_cases h4 : k = 4
  · subst h4; exact refallowed_4 n w
  by_cases h5 : k = 5
  · subst h5; exact refallowed_5 n w
  by_cases h6 : k = 6
  · subst h6; exact refallowed_6 n w
  by_cases h7 : k = 7
  · subst h7; exact refallowed_7 n w
  by_cases h8 : k = 8
  · subst h8; exact refallowed_8 n w
  by_cases h9 : k = 9
  · subst h9; exact refallowed_9 n w
  by_cases h10 : k = 10
  · subst h10; exact refallowed_10 n w
  by_cases h11 : k = 11
  · subst h11; exact refallowed_11 n w
  by_cases h14 : k = 14
  · subst h14; exact refallowed_14 n w
  by_cases h15 : k = 15
  · subst h15; exact refallowed_15 n w
  exact refallowed_other k n w (beq_eq_false_iff_ne.2 h0) (beq_eq_false_iff_ne.2 h1) (beq_eq_false_iff_ne.2 h2) (beq_eq_false_iff_ne.2 h3) (beq_eq_false_iff_ne.2 h4) (beq_eq_false_iff_ne.2 h5) (beq_eq_false_iff_ne.2 h6) (beq_eq_false_iff_ne.2 h7) (beq_eq_false_iff_ne.2 h8) (beq_eq_false_iff_ne.2 h9) (beq_eq_false_iff_ne.2 h10) (beq_eq_false_iff_ne.2 h11) (beq_eq_false_iff_ne.2 h14) (beq_eq_false_iff_ne.2 h15)
end Go.Proofs.Ythdbkpapkheefaa
