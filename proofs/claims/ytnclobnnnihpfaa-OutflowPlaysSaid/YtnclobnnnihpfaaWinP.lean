/- OutflowWindow, plain: never more are begun than may be. -/
import Derived.Test.YtnclobnnnihpfaaFlowP
namespace Go.Proofs.Ytnclobnnnihpfaa
set_option linter.unusedVariables false

theorem goL_fl (most : Int) : ∀ (wt : List OM) (t : Int) (fl : List OF), ((goL most t fl wt).2.1.length : Int) ≤ max (fl.length : Int) most
  | [], t, fl => by unfold goL; simp only; omega
  | m :: r, t, fl => by
    unfold goL
    split
    · split
      · simp only; omega
      · have := goL_fl most r (nextId (oids fl) t) (fl ++ [⟨nextId (oids fl) t, m, false⟩])
        simp only [List.length_append, List.length_cons, List.length_nil] at this ⊢
        omega
    · exact goL_fl most r t fl
theorem goOn_fl (s : FS) : ((goOn s).1.fl.length : Int) ≤ max (s.fl.length : Int) s.most := by
  unfold goOn
  split
  · exact goL_fl _ _ _ _
  · simp only; omega
theorem goOn_most (s : FS) : (goOn s).1.most = s.most := by
  unfold goOn
  split <;> rfl
theorem win_send (s : FS) (m : OM) : (fsend s m).1.most = s.most ∧ ((fsend s m).1.fl.length : Int) ≤ max (s.fl.length : Int) s.most := by
  unfold fsend
  split
  · exact ⟨rfl, by simp only; omega⟩
  · split
    · exact ⟨rfl, by simp only; omega⟩
    · split
      · exact ⟨rfl, by simp only; omega⟩
      · exact ⟨goOn_most _, goOn_fl { s with wt := s.wt ++ [m] }⟩
theorem win_over (s : FS) (i : Nat) : (goOn (fover s i)).1.most = s.most ∧ ((goOn (fover s i)).1.fl.length : Int) ≤ max (s.fl.length : Int) s.most := by
  refine ⟨goOn_most _, ?_⟩
  have h := goOn_fl (fover s i)
  have h2 : (fover s i).fl.length ≤ s.fl.length := List.length_eraseIdx_le ..
  have h3 : (fover s i).most = s.most := rfl
  omega
theorem win_rel (s : FS) (i : Nat) : (goOn (frel s i)).1.most = s.most ∧ ((goOn (frel s i)).1.fl.length : Int) ≤ max (s.fl.length : Int) s.most := by
  refine ⟨goOn_most _, ?_⟩
  have h := goOn_fl (frel s i)
  have h2 : (frel s i).fl.length = s.fl.length := List.length_modify ..
  have h3 : (frel s i).most = s.most := rfl
  omega
theorem win_answer (s : FS) (k id code : Int) : (fanswer s k id code).1.most = s.most ∧ ((fanswer s k id code).1.fl.length : Int) ≤ max (s.fl.length : Int) s.most := by
  have hs : s.most = s.most ∧ (s.fl.length : Int) ≤ max (s.fl.length : Int) s.most := ⟨rfl, by omega⟩
  unfold fanswer
  split
  · exact hs
  · split
    · exact hs
    · split
      · exact hs
      · split
        · split
          · exact hs
          · exact win_over s _
        · split
          · split
            · exact hs
            · split
              · exact win_over s _
              · exact win_rel s _
          · split
            · exact hs
            · exact win_over s _
theorem win_begin (s : FS) (n : Int) : (fbegin s n).1.most = bounded n ∧ ((fbegin s n).1.fl.length : Int) ≤ max (s.fl.length : Int) (bounded n) := by
  unfold fbegin
  exact ⟨goOn_most _, goOn_fl { s with on := true, most := bounded n }⟩
end Go.Proofs.Ytnclobnnnihpfaa
