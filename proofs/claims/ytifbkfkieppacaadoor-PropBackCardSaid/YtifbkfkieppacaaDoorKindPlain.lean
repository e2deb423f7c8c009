/- Plain facts about the kinds of properties; no program in sight. -/
import Derived.Test.YtifbkfkieppacaaDoorAux
namespace Go.Proofs.YtifbkfkieppacaaDoor.Pl

/-- The kind of an identifier's values. -/
def kindOf (n : Int) : Int :=
  if n ∈ [1, 23, 25, 36, 37, 40, 41, 42] then 1 else if n ∈ [19, 33, 34, 35] then 2 else if n ∈ [2, 17, 24, 39] then 3 else if n = 11 then 4
  else if n ∈ [9, 22] then 5 else if n ∈ [3, 8, 18, 21, 26, 28, 31] then 6 else if n = 38 then 7 else 0
theorem kind1 {n : Int} (h : n = 1 ∨ n = 23 ∨ n = 25 ∨ n = 36 ∨ n = 37 ∨ n = 40 ∨ n = 41 ∨ n = 42) : kindOf n = 1 := by
  rcases h with rfl | rfl | rfl | rfl | rfl | rfl | rfl | rfl <;> decide
theorem kind2 {n : Int} (h : n = 19 ∨ n = 33 ∨ n = 34 ∨ n = 35) : kindOf n = 2 := by rcases h with rfl | rfl | rfl | rfl <;> decide
theorem kind3 {n : Int} (h : n = 2 ∨ n = 17 ∨ n = 24 ∨ n = 39) : kindOf n = 3 := by rcases h with rfl | rfl | rfl | rfl <;> decide
theorem kind4 {n : Int} (h : n = 11) : kindOf n = 4 := by subst h; decide
theorem kind5 {n : Int} (h : n = 9 ∨ n = 22) : kindOf n = 5 := by rcases h with rfl | rfl <;> decide
theorem kind6 {n : Int} (h : n = 3 ∨ n = 8 ∨ n = 18 ∨ n = 21 ∨ n = 26 ∨ n = 28 ∨ n = 31) : kindOf n = 6 := by rcases h with rfl | rfl | rfl | rfl | rfl | rfl | rfl <;> decide
theorem kind7 {n : Int} (h : n = 38) : kindOf n = 7 := by subst h; decide
theorem kind0 {n : Int} (h : ¬ (n = 1 ∨ n = 23 ∨ n = 25 ∨ n = 36 ∨ n = 37 ∨ n = 40 ∨ n = 41 ∨ n = 42 ∨ n = 19 ∨ n = 33 ∨ n = 34 ∨ n = 35 ∨ n = 2 ∨ n = 17 ∨ n = 24 ∨ n = 39 ∨ n = 11 ∨ n = 9 ∨ n = 22 ∨ n = 3 ∨ n = 8 ∨ n = 18 ∨ n = 21 ∨ n = 26 ∨ n = 28 ∨ n = 31 ∨ n = 38)) : kindOf n = 0 := by
  simp only [not_or] at h
  unfold kindOf
  simp [h]
theorem kindE {n c k : Int} (h : (n == c) = true) (hk : kindOf c = k) : k = kindOf n := by rw [eq_of_beq h, hk]
theorem kindN {n : Int} (h1 : (n == 1) = false) (h23 : (n == 23) = false) (h25 : (n == 25) = false) (h36 : (n == 36) = false) (h37 : (n == 37) = false) (h40 : (n == 40) = false) (h41 : (n == 41) = false) (h42 : (n == 42) = false) (h19 : (n == 19) = false) (h33 : (n == 33) = false) (h34 : (n == 34) = false) (h35 : (n == 35) = false) (h2 : (n == 2) = false) (h17 : (n == 17) = false) (h24 : (n == 24) = false) (h39 : (n == 39) = false) (h11 : (n == 11) = false) (h9 : (n == 9) = false) (h22 : (n == 22) = false) (h3 : (n == 3) = false) (h8 : (n == 8) = false) (h18 : (n == 18) = false) (h21 : (n == 21) = false) (h26 : (n == 26) = false) (h28 : (n == 28) = false) (h31 : (n == 31) = false) (h38 : (n == 38) = false) : 0 = kindOf n := by
  simp only [beq_eq_false_iff_ne, ne_eq] at *
  exact (kind0 (by simp only [not_or]; exact ⟨h1, h23, h25, h36, h37, h40, h41, h42, h19, h33, h34, h35, h2, h17, h24, h39, h11, h9, h22, h3, h8, h18, h21, h26, h28, h31, h38⟩)).symm
theorem kindOf_bd (n : Int) : 0 ≤ kindOf n ∧ kindOf n ≤ 7 := by
  unfold kindOf
  repeat' split
  all_goals omega
/-- Is the number in the list? -/
def isIn (n : Int) (l : List Int) : Bool := decide (n ∈ l)
/-- The kind, as the document's answer goes about it. -/
theorem kindOf_in (n : Int) : kindOf n = if isIn n [1, 23, 25, 36, 37, 40, 41, 42] = true then 1 else if isIn n [19, 33, 34, 35] = true then 2 else if isIn n [2, 17, 24, 39] = true then 3 else if n = 11 then 4
    else if isIn n [9, 22] = true then 5 else if isIn n [3, 8, 18, 21, 26, 28, 31] = true then 6 else if n = 38 then 7 else 0 := by
  unfold isIn kindOf
  simp only [decide_eq_true_eq]
theorem kindW (n : Int) {a b c d f : Bool} (ha : isIn n [1, 23, 25, 36, 37, 40, 41, 42] = a) (hb : isIn n [19, 33, 34, 35] = b) (hc : isIn n [2, 17, 24, 39] = c) (hd : isIn n [9, 22] = d) (hf : isIn n [3, 8, 18, 21, 26, 28, 31] = f) :
    (a = true → 1 = kindOf n) ∧ (a = false → b = true → 2 = kindOf n) ∧ (a = false → b = false → c = true → 3 = kindOf n) ∧ (a = false → b = false → c = false → (n == 11) = true → 4 = kindOf n) ∧
    (a = false → b = false → c = false → (n == 11) = false → d = true → 5 = kindOf n) ∧ (a = false → b = false → c = false → (n == 11) = false → d = false → f = true → 6 = kindOf n) ∧
    (a = false → b = false → c = false → (n == 11) = false → d = false → f = false → (n == 38) = true → 7 = kindOf n) ∧ (a = false → b = false → c = false → (n == 11) = false → d = false → f = false → (n == 38) = false → 0 = kindOf n) := by
  rw [kindOf_in n, ha, hb, hc, hd, hf]
  refine ⟨?_, ?_, ?_, ?_, ?_, ?_, ?_, ?_⟩
  all_goals simp +contextual
theorem isIn_hit {n : Int} {l : List Int} {k : Nat} (h : k < l.length) (he : l.getD k 0 = n) : isIn n l = true := by
  unfold isIn
  rw [decide_eq_true_eq, ← he]
  simp [List.getD, List.getElem?_eq_getElem h]
theorem isIn_none {n : Int} {l : List Int} (h : ∀ j, j < l.length → l.getD j 0 ≠ n) : isIn n l = false := by
  unfold isIn
  rw [decide_eq_false_iff_not]
  intro hm
  obtain ⟨j, hj, he⟩ := List.getElem_of_mem hm
  exact h j hj (by simp [List.getD, List.getElem?_eq_getElem hj, he])
end Go.Proofs.YtifbkfkieppacaaDoor.Pl
