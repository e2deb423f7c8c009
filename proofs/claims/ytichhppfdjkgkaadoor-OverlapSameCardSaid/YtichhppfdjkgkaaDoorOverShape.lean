/- A shape as a value; the walks of its small methods. -/
import Derived.Test.YtichhppfdjkgkaaDoorOverLevel
namespace Go.Proofs.YtichhppfdjkgkaaDoor
set_option linter.unusedVariables false
open Go.RowKit Pl Go.Shelf

/-- A shape as it is handed on: its levels lie in a row. -/
def ShA (w : World) (v : Value) (s : Sh) : Prop :=
  ∃ A cap, v = .agg #[.slice A s.lv.length cap, .bool s.op] ∧ s.lv.length ≤ cap ∧ cap ≤ maxLen ∧
    (0 < s.lv.length → ∃ b, A = some ⟨b, 0, none⟩ ∧ b < w.heap.size ∧ ∀ i x, s.lv[i]? = some x → w.cell? ⟨b, i, none⟩ = some (strV x))
theorem ShA.below {w w' : World} {v : Value} {s : Sh} (h : ShA w v s) (hb : Below w.heap.size w w') : ShA w' v s := by
  obtain ⟨A, cap, rfl, h1, h2, h3⟩ := h
  refine ⟨A, cap, rfl, h1, h2, fun hp => ?_⟩
  obtain ⟨b, rfl, hl, hc⟩ := h3 hp
  exact ⟨b, rfl, Nat.lt_of_lt_of_le hl hb.size, fun i x hx => (hb.cell (p := ⟨b, i, none⟩) hl).trans (hc i x hx)⟩
theorem wild_any (v : Value) (s : Sh) (w : World) (h : ShA w v s) :
    Calls Tryd.prog 29 #[v] w fun e w' => e = .returned (.bool (wld s.lv)) ∧ Below w.heap.size w w' := by
  obtain ⟨A, cap, rfl, h1, h2, h3⟩ := h
  obtain ⟨L, op⟩ := s
  cases L with
  | nil =>
    have e : wld [] = true := rfl
    rw [e]
    simp only [List.length_nil] at h1 ⊢
    clear h3
    go_enter Tryd.func29, Tryd.ntmps29
    go_wp2
    go_ret
    exact ⟨rfl, (Below.refl _ _).alloc (Nat.le_refl _) _⟩
  | cons x r =>
    obtain ⟨b, rfl, hb, hc⟩ := h3 (by simp)
    have c0 := hc 0 x rfl
    clear hc h3
    obtain ⟨n, hn⟩ : ∃ n, (x :: r).length = n := ⟨_, rfl⟩
    have hn1 : 1 ≤ n := by rw [← hn]; simp
    simp only [hn] at h1 ⊢
    have e0 : ((n : Int) == 0) = false := beq_eq_false_iff_ne.2 (by omega)
    unfold strV at c0
    have ew : wld (x :: r) = (x == [43]) := rfl
    rw [ew]
    clear ew hn
    go_enter Tryd.func29, Tryd.ntmps29
    go_wp2
    go_ret
    exact ⟨rfl, (Below.refl _ _).alloc (Nat.le_refl _) _⟩
theorem takes_any (v : Value) (s : Sh) (n : Nat) (w : World) (h : ShA w v s) :
    Calls Tryd.prog 28 #[v, .int .i64 n] w fun e w' => e = .returned (.bool (tks s n)) ∧ Below w.heap.size w w' := by
  obtain ⟨A, cap, rfl, h1, h2, h3⟩ := h
  obtain ⟨L, op⟩ := s
  obtain ⟨m, hm⟩ : ∃ m, L.length = m := ⟨_, rfl⟩
  have e : tks ⟨L, op⟩ n = (((n : Int) == (m : Int)) || (op && decide (m < n))) := by
    unfold tks
    simp only [hm]
    congr 1
    rw [Bool.eq_iff_iff]; simp; omega
  rw [e]
  simp only [hm] at h1 ⊢
  clear e h3 hm
  cases hc : ((n : Int) == (m : Int)) <;> cases op
  all_goals
    go_enter Tryd.func28, Tryd.ntmps28
    go_wp2
    go_ret
    exact ⟨rfl, (Below.refl _ _).alloc (Nat.le_refl _) _⟩
theorem at_any (v : Value) (s : Sh) (n : Nat) (w : World) (h : ShA w v s) :
    Calls Tryd.prog 31 #[v, .int .i64 n] w fun e w' => e = .returned (strV (atL s.lv n)) ∧ Below w.heap.size w w' := by
  obtain ⟨A, cap, rfl, h1, h2, h3⟩ := h
  obtain ⟨L, op⟩ := s
  by_cases hn : n < L.length
  · obtain ⟨b, rfl, hb, hc⟩ := h3 (by show 0 < L.length; omega)
    have c0 := hc n _ (atL_lt hn)
    obtain ⟨x, hx⟩ : ∃ x, atL L n = x := ⟨_, rfl⟩
    simp only at h1 c0 ⊢
    rw [hx] at c0 ⊢
    obtain ⟨m, hm⟩ : ∃ m, L.length = m := ⟨_, rfl⟩
    rw [hm] at h1 hn ⊢
    clear hc h3 hx hm
    unfold strV at c0 ⊢
    have hlt : (n : Int) < (m : Int) := by omega
    go_enter Tryd.func31, Tryd.ntmps31
    go_wp2
    go_ret
    exact ⟨rfl, (Below.refl _ _).alloc (Nat.le_refl _) _⟩
  · simp only at h1 ⊢
    rw [atL_ge (by omega)]
    obtain ⟨m, hm⟩ : ∃ m, L.length = m := ⟨_, rfl⟩
    rw [hm] at h1 hn ⊢
    clear h3 hm
    have hlt : ¬ (n : Int) < (m : Int) := by omega
    go_enter Tryd.func31, Tryd.ntmps31
    go_wp2
    go_ret
    exact ⟨rfl, (Below.refl _ _).alloc (Nat.le_refl _) _⟩
end Go.Proofs.YtichhppfdjkgkaaDoor
