/- The walks of a shape's dollar and least. -/
import Derived.Test.YtichhppfdjkgkaaDoorOverShape
namespace Go.Proofs.YtichhppfdjkgkaaDoor
set_option linter.unusedVariables false
open Go.RowKit Pl Go.Shelf

theorem dollar_any (v : Value) (s : Sh) (w : World) (h : ShA w v s) :
    Calls Tryd.prog 30 #[v] w fun e w' => e = .returned (.bool (dlr s.lv)) ∧ Below w.heap.size w w' := by
  obtain ⟨A, cap, rfl, h1, h2, h3⟩ := h
  obtain ⟨L, op⟩ := s
  cases L with
  | nil =>
    have e : dlr [] = false := rfl
    rw [e]
    simp only [List.length_nil] at h1 ⊢
    clear h3
    go_enter Tryd.func30, Tryd.ntmps30
    go_wp2
    go_ret
    exact ⟨rfl, (Below.refl _ _).alloc (Nat.le_refl _) _⟩
  | cons x r =>
    obtain ⟨b, rfl, hb, hc⟩ := h3 (by simp)
    have c0 := hc 0 x rfl
    clear hc h3
    obtain ⟨n, hn⟩ : ∃ n, (x :: r).length = n := ⟨_, rfl⟩
    have hn1 : 1 ≤ n := by rw [← hn]; simp
    simp only [hn] at h1 ⊢
    clear hn
    have e0 : ((n : Int) > 0) := by omega
    have ew : dlr (x :: r) = dl x := rfl
    rw [ew]
    clear ew
    unfold strV at c0
    obtain ⟨X, hX⟩ : ∃ X : ByteArray, (⟨x.toArray⟩ : ByteArray) = X := ⟨_, rfl⟩
    have hx : x = X.data.toList := by rw [← hX]
    rw [hX] at c0
    rw [hx]
    clear hx hX
    by_cases hz : X.size = 0
    · have ez : ¬ ((X.size : Int) > 0) := by omega
      rw [dl_nil X hz]
      go_enter Tryd.func30, Tryd.ntmps30
      go_wp2
      go_ret
      exact ⟨rfl, (Below.refl _ _).alloc (Nat.le_refl _) _⟩
    · have hp : 0 < X.size := by omega
      have ez : (X.size : Int) > 0 := by omega
      rw [dl_at X hp]
      go_enter Tryd.func30, Tryd.ntmps30
      go_wp2
      go_ret
      exact ⟨rfl, (Below.refl _ _).alloc (Nat.le_refl _) _⟩
theorem least_any (v : Value) (s : Sh) (w : World) (h : ShA w v s) :
    Calls Tryd.prog 27 #[v] w fun e w' => e = .returned (.int .i64 (lst s.lv)) ∧ Below w.heap.size w w' := by
  obtain ⟨A, cap, rfl, h1, h2, h3⟩ := h
  obtain ⟨L, op⟩ := s
  by_cases hl : L.length = 1
  · obtain ⟨b, rfl, hb, hc⟩ := h3 (by show 0 < L.length; omega)
    match L, hl with
    | [x], _ =>
      have c0 := hc 0 x rfl
      clear hc h3
      simp only [List.length_singleton] at h1 ⊢
      unfold strV at c0
      by_cases hx : x = []
      · subst hx
        have e : lst [[]] = 2 := rfl
        rw [e]
        go_enter Tryd.func27, Tryd.ntmps27
        go_wp2
        go_ret
        exact ⟨rfl, (Below.refl _ _).alloc (Nat.le_refl _) _⟩
      · have e : lst [x] = 1 := by rw [lst_else (by simpa using hx)]; rfl
        rw [e]
        have ee : (x == []) = false := beq_eq_false_iff_ne.2 hx
        have ee2 : x.isEmpty = false := by cases x with | nil => exact absurd rfl hx | cons _ _ => rfl
        go_enter Tryd.func27, Tryd.ntmps27
        go_wp2
        go_ret
        exact ⟨rfl, (Below.refl _ _).alloc (Nat.le_refl _) _⟩
  · have e : lst L = max 1 L.length := lst_else fun h => hl (by rw [h]; rfl)
    rw [e]
    obtain ⟨m, hm⟩ : ∃ m, L.length = m := ⟨_, rfl⟩
    simp only [hm] at h1 hl ⊢
    clear h3 e hm
    have e1 : ((m : Int) == 1) = false := beq_eq_false_iff_ne.2 (by omega)
    have e2 : ((max 1 m : Nat) : Int) = max 1 (m : Int) := by omega
    rw [e2]
    go_enter Tryd.func27, Tryd.ntmps27
    go_wp2
    go_ret
    exact ⟨rfl, (Below.refl _ _).alloc (Nat.le_refl _) _⟩
end Go.Proofs.YtichhppfdjkgkaaDoor
