/- The walk of overlap's Witness. -/
import Derived.Test.YtichhppfdjkgkaaDoorOverFill
import Derived.Test.YtichhppfdjkgkaaDoorOverLaws
import Derived.BigQuiet
import Derived.Deep.QuietTactic
namespace Go.Proofs.YtichhppfdjkgkaaDoor
set_option linter.unusedVariables false
open Go.RowKit Pl Go.Shelf

/-- A shape in a block of its own. -/
def BoxA (w : World) (P : Nat) (v : Value) : Prop := ∃ A n cap op, v = .agg #[.slice A n cap, .bool op] ∧ P < w.heap.size ∧ w.cell? ⟨P, 0, none⟩ = some (.slice A n cap) ∧ w.cell? ⟨P, 1, none⟩ = some (.bool op)
theorem BoxA.below {w w' : World} {P : Nat} {v : Value} (h : BoxA w P v) (hb : Below w.heap.size w w') : BoxA w' P v := by
  obtain ⟨A, n, cap, op, rfl, h1, h2, h3⟩ := h
  exact ⟨A, n, cap, op, rfl, Nat.lt_of_lt_of_le h1 hb.size, (hb.cell (p := ⟨P, 0, none⟩) h1).trans h2, (hb.cell (p := ⟨P, 1, none⟩) h1).trans h3⟩
theorem wit1_any (P Q : Nat) (u v : Value) (s t : Sh) (i : Nat) (w : World) (hu : ShA w u s) (hv : ShA w v t) (hP : BoxA w P u) (hQ : BoxA w Q v) :
    Calls Tryd.prog 33 #[.int .i64 i, .pointer (some ⟨P, 0, none⟩), .pointer (some ⟨Q, 0, none⟩)] w fun e w' => e = .returned (strV (pickL s.lv t.lv i)) ∧ Below w.heap.size w w' := by
  obtain ⟨A, n, cap, op, rfl, p1, p2, p3⟩ := hP
  obtain ⟨A', n', cap', op', rfl, q1, q2, q3⟩ := hQ
  obtain ⟨x, hx⟩ : ∃ x, atL s.lv i = x := ⟨_, rfl⟩
  obtain ⟨y, hy⟩ : ∃ y, atL t.lv i = y := ⟨_, rfl⟩
  have C1 := at_any _ s i w hu
  have C2 : ∀ W, Below w.heap.size w W → _ := fun W hb => at_any _ t i W (hv.below hb)
  have hr : pickL s.lv t.lv i = if x = [43] then y else x := by rw [← hx, ← hy]; rfl
  rw [hx] at C1
  rw [hy] at C2
  rw [hr]
  have C1 := Lib.hid C1
  have C2 := Lib.hid C2
  clear hu hv hx hy hr
  unfold strV at C1 C2 ⊢
  by_cases hx : x = [43]
  · have f1 : (x == [43]) = true := by rw [hx]; rfl
    have f2 : (x != [43]) = false := by rw [hx]; rfl
    rw [if_pos hx]
    clear hx
    go_enter Tryd.func33, Tryd.ntmps33
    go_wp2_with fail
    refine C1.out.mono ?_
    rintro e w1 ⟨rfl, b1⟩
    have e1 := (b1.cell (p := ⟨Q, 0, none⟩) q1).trans q2
    have e2 := (b1.cell (p := ⟨Q, 1, none⟩) q1).trans q3
    go_wp2_with fail
    refine (C2.out _ b1).mono ?_
    rintro e w2 ⟨rfl, b2⟩
    go_wp2
    go_ret
    exact ⟨rfl, b1.trans (b2.mono b1.size)⟩
  · have f1 : (x == [43]) = false := beq_eq_false_iff_ne.2 hx
    have f2 : (x != [43]) = true := by unfold bne; rw [f1]; rfl
    rw [if_neg hx]
    clear hx
    go_enter Tryd.func33, Tryd.ntmps33
    go_wp2_with fail
    refine C1.out.mono ?_
    rintro e w1 ⟨rfl, b1⟩
    go_wp2
    go_ret
    exact ⟨rfl, b1⟩
end Go.Proofs.YtichhppfdjkgkaaDoor
