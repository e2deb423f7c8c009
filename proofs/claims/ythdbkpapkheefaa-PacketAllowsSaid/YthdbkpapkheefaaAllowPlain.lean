/- Plain facts: which properties packets of which kind may have; no program in sight. -/
import Derived.Test.YthdbkpapkheefaaKindPlain
namespace Go.Proofs.Ythdbkpapkheefaa.Pl
/-- The identifiers of the properties that packets of a kind may have. -/
def allowL (k : Int) : List Int :=
  if k = 0 then [1, 2, 3, 8, 9, 24, 38] else
  if k = 1 then [17, 21, 22, 23, 25, 33, 34, 38, 39] else
  if k = 2 then [17, 18, 19, 21, 22, 26, 28, 31, 33, 34, 36, 37, 38, 39, 40, 41, 42] else
  if k = 3 then [1, 2, 3, 8, 9, 11, 35, 38] else
  if k = 4 then [31, 38] else
  if k = 5 then [31, 38] else
  if k = 6 then [31, 38] else
  if k = 7 then [31, 38] else
  if k = 8 then [11, 38] else
  if k = 9 then [31, 38] else
  if k = 10 then [38] else
  if k = 11 then [31, 38] else
  if k = 14 then [17, 28, 31, 38] else
  if k = 15 then [21, 22, 31, 38] else []
/-- May packets of a kind have a property? -/
def alw (k n : Int) : Bool := isIn n (allowL k)
theorem alw_other {k : Int} (n : Int) (h0 : (k == 0) = false) (h1 : (k == 1) = false) (h2 : (k == 2) = false) (h3 : (k == 3) = false) (h4 : (k == 4) = false) (h5 : (k == 5) = false) (h6 : (k == 6) = false) (h7 : (k == 7) = false) (h8 : (k == 8) = false) (h9 : (k == 9) = false) (h10 : (k == 10) = false) (h11 : (k == 11) = false) (h14 : (k == 14) = false) (h15 : (k == 15) = false) : alw k n = false := by
  simp only [beq_eq_false_iff_ne, ne_eq] at *
  unfold alw allowL
  simp [h0, h1, h2, h3, h4, h5, h6, h7, h8, h9, h10, h11, h14, h15, isIn]
theorem isIn_two (n a b : Int) : isIn n [a, b] = (n == a || n == b) := by
  by_cases h : n = a <;> by_cases h2 : n = b <;> simp [isIn, h, h2]
theorem isIn_one (n a : Int) : isIn n [a] = (n == a) := by
  by_cases h : n = a <;> simp [isIn, h]
theorem alw_2 (n : Int) : alw 2 n = (isIn n [17, 18, 19, 21, 22, 26, 28, 31, 33, 34] || (decide (36 ≤ n) && decide (n ≤ 42))) := by
  unfold alw
  show isIn n [17, 18, 19, 21, 22, 26, 28, 31, 33, 34, 36, 37, 38, 39, 40, 41, 42] = _
  by_cases h : 36 ≤ n ∧ n ≤ 42
  · obtain rfl | rfl | rfl | rfl | rfl | rfl | rfl : n = 36 ∨ n = 37 ∨ n = 38 ∨ n = 39 ∨ n = 40 ∨ n = 41 ∨ n = 42 := by omega
    all_goals decide
  · have e : (decide (36 ≤ n) && decide (n ≤ 42)) = false := by
      rw [Bool.and_eq_false_iff]
      simp only [decide_eq_false_iff_not]
      omega
    rw [e, Bool.or_false]
    unfold isIn
    congr 1
    simp only [List.mem_cons, List.not_mem_nil, or_false, eq_iff_iff]
    omega
end Go.Proofs.Ythdbkpapkheefaa.Pl
