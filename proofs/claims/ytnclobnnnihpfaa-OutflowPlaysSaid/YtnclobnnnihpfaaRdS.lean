/- The document's pool (aqueductref13): its rising list, in plain Lean. -/
import Derived.Test.YtnclobnnnihpfaaRdP
namespace Go.Proofs.Ytnclobnnnihpfaa
set_option linter.unusedVariables false
/-- 'put'. -/
def rput (id : Int) : List Int → List Int
  | [] => [id]
  | x :: r => if id < x then id :: x :: r else x :: rput id r
theorem mem_rput {id y : Int} : ∀ {l : List Int}, y ∈ rput id l ↔ y = id ∨ y ∈ l := by
  intro l
  induction l with
  | nil => simp [rput]
  | cons x r ih =>
    unfold rput
    split
    · simp
    · rw [List.mem_cons, ih, List.mem_cons]
      constructor
      · rintro (h | h | h)
        · exact .inr (.inl h)
        · exact .inl h
        · exact .inr (.inr h)
      · rintro (h | h | h)
        · exact .inr (.inl h)
        · exact .inl h
        · exact .inr (.inr h)
theorem rput_length (id : Int) : ∀ l : List Int, (rput id l).length = l.length + 1 := by
  intro l
  induction l with
  | nil => rfl
  | cons x r ih =>
    unfold rput
    split
    · rfl
    · simp [ih]
/-- The loop of 'put': what is written behind i rounds, and whether it is done. -/
def putR (id : Int) (l : List Int) : List Int × Bool := l.foldl (fun s x => if s.2 = false ∧ id < x then (s.1 ++ [id] ++ [x], true) else (s.1 ++ [x], s.2)) ([], false)
theorem putR_snoc (id x : Int) (l : List Int) : putR id (l ++ [x]) = if (putR id l).2 = false ∧ id < x then ((putR id l).1 ++ [id] ++ [x], true) else ((putR id l).1 ++ [x], (putR id l).2) := by
  unfold putR; rw [List.foldl_append]; rfl
theorem putR_done (id : Int) (l a : List Int) : l.foldl (fun (s : List Int × Bool) x => if s.2 = false ∧ id < x then (s.1 ++ [id] ++ [x], true) else (s.1 ++ [x], s.2)) (a, true) = (a ++ l, true) := by
  induction l generalizing a with
  | nil => simp
  | cons x r ih => rw [List.foldl_cons]; simp only [Bool.true_eq_false, false_and, if_false]; rw [ih]; simp
theorem putR_eq (id : Int) : ∀ (l a : List Int), (fun s : List Int × Bool => if s.2 then s.1 else s.1 ++ [id]) (l.foldl (fun (s : List Int × Bool) x => if s.2 = false ∧ id < x then (s.1 ++ [id] ++ [x], true) else (s.1 ++ [x], s.2)) (a, false)) = a ++ rput id l := by
  intro l
  induction l with
  | nil => intro a; simp [rput]
  | cons x r ih =>
    intro a
    rw [List.foldl_cons]
    unfold rput
    by_cases h : id < x
    · simp only [true_and, if_pos h]
      rw [putR_done]
      simp
    · simp only [true_and, if_neg h]
      refine (ih (a ++ [x])).trans ?_
      simp
theorem putR_put (id : Int) (l : List Int) : (if (putR id l).2 then (putR id l).1 else (putR id l).1 ++ [id]) = rput id l := by
  have := putR_eq id l []
  simpa [putR] using this
end Go.Proofs.Ytnclobnnnihpfaa
