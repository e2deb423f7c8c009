/- Identifiers: the next one that is not in use. Plain. -/
namespace Go.Proofs.Ytnclobnnnihpfaa
set_option linter.unusedVariables false

/-- The identifier behind another one. -/
def idStep (t : Int) : Int := t % 65535 + 1
def idN : Nat → Int → Int
  | 0, t => t
  | n + 1, t => idN n (idStep t)
theorem idStep_bd (t : Int) : 1 ≤ idStep t ∧ idStep t ≤ 65535 := by unfold idStep; omega
/-- The first one behind t that is not in l, of so many. -/
def idNext (l : List Int) : Nat → Int → Int
  | 0, t => idStep t
  | n + 1, t => if idStep t ∈ l then idNext l n (idStep t) else idStep t
/-- How many steps it takes. -/
def idDist (l : List Int) : Nat → Int → Nat
  | 0, _ => 0
  | n + 1, t => if idStep t ∈ l then idDist l n (idStep t) + 1 else 0
/-- One of the next n + 1 is free. -/
def idFree (l : List Int) : Nat → Int → Prop
  | 0, t => idStep t ∉ l
  | n + 1, t => idStep t ∉ l ∨ idFree l n (idStep t)
theorem idFree_up {l : List Int} : ∀ {n : Nat} {t : Int}, idFree l n t → idFree l (n + 1) t
  | 0, t, h => .inl h
  | n + 1, t, h => by
    rcases h with h | h
    · exact .inl h
    · exact .inr (idFree_up h)
theorem idNext_up {l : List Int} : ∀ {n : Nat} {t : Int}, idFree l n t → idNext l (n + 1) t = idNext l n t
  | 0, t, h => by unfold idFree at h; simp [idNext, h]
  | n + 1, t, h => by
    show (if idStep t ∈ l then idNext l (n + 1) (idStep t) else idStep t) = if idStep t ∈ l then idNext l n (idStep t) else idStep t
    by_cases c : idStep t ∈ l
    · rw [if_pos c, if_pos c]
      exact idNext_up (h.resolve_left (fun k => k c))
    · rw [if_neg c, if_neg c]
theorem idDist_up {l : List Int} : ∀ {n : Nat} {t : Int}, idFree l n t → idDist l (n + 1) t = idDist l n t
  | 0, t, h => by unfold idFree at h; simp [idDist, h]
  | n + 1, t, h => by
    show (if idStep t ∈ l then idDist l (n + 1) (idStep t) + 1 else 0) = if idStep t ∈ l then idDist l n (idStep t) + 1 else 0
    by_cases c : idStep t ∈ l
    · rw [if_pos c, if_pos c, idDist_up (h.resolve_left (fun k => k c))]
    · rw [if_neg c, if_neg c]
theorem idNext_bd (l : List Int) : ∀ (n : Nat) (t : Int), 1 ≤ idNext l n t ∧ idNext l n t ≤ 65535
  | 0, t => idStep_bd t
  | n + 1, t => by
    unfold idNext
    split
    · exact idNext_bd l n _
    · exact idStep_bd t
theorem idNext_free {l : List Int} : ∀ {n : Nat} {t : Int}, idFree l n t → idNext l n t ∉ l
  | 0, t, h => h
  | n + 1, t, h => by
    unfold idNext
    split
    · rename_i c
      exact idNext_free (h.resolve_left (fun k => k c))
    · rename_i c
      exact c
/-- As many as there are in l, and one more: one is free. -/
theorem nodup_len : ∀ (a l : List Int), a.Nodup → (∀ x ∈ a, x ∈ l) → a.length ≤ l.length
  | [], l, _, _ => Nat.zero_le _
  | x :: a, l, hn, hs => by
    rw [List.nodup_cons] at hn
    have hx := hs x (List.mem_cons_self ..)
    have h1 := nodup_len a (l.erase x) hn.2 (fun y hy => (List.mem_erase_of_ne (fun (e : y = x) => hn.1 (e ▸ hy))).2 (hs y (List.mem_cons_of_mem _ hy)))
    have h2 := List.length_erase_of_mem hx
    have h3 : 0 < l.length := List.length_pos_of_mem hx
    simp only [List.length_cons]
    omega
/-- The n + 1 that follow t. -/
def idRun : Nat → Int → List Int
  | 0, t => [idStep t]
  | n + 1, t => idStep t :: idRun n (idStep t)
theorem idRun_length : ∀ (n : Nat) (t : Int), (idRun n t).length = n + 1
  | 0, _ => rfl
  | n + 1, t => by simp [idRun, idRun_length n]
theorem idRun_mem : ∀ (n : Nat) (t x : Int), x ∈ idRun n t → ∃ k : Nat, k ≤ n ∧ x = (t + k) % 65535 + 1
  | 0, t, x, h => by
    simp only [idRun, List.mem_singleton] at h
    exact ⟨0, Nat.le_refl _, by rw [h]; unfold idStep; simp⟩
  | n + 1, t, x, h => by
    rcases List.mem_cons.1 h with rfl | h
    · exact ⟨0, Nat.zero_le _, by unfold idStep; simp⟩
    · obtain ⟨k, hk, rfl⟩ := idRun_mem n (idStep t) x h
      refine ⟨k + 1, by omega, ?_⟩
      unfold idStep
      omega
theorem idRun_nodup : ∀ (n : Nat) (t : Int), n < 65535 → (idRun n t).Nodup
  | 0, t, _ => by simp [idRun]
  | n + 1, t, h => by
    unfold idRun
    rw [List.nodup_cons]
    refine ⟨fun c => ?_, idRun_nodup n _ (by omega)⟩
    obtain ⟨k, hk, e⟩ := idRun_mem n _ _ c
    unfold idStep at e
    omega
theorem idFree_of : ∀ (l : List Int) (n : Nat) (t : Int), ¬ (∀ x ∈ idRun n t, x ∈ l) → idFree l n t
  | l, 0, t, h => fun c => h (by simpa [idRun] using c)
  | l, n + 1, t, h => by
    by_cases c : idStep t ∈ l
    · refine .inr (idFree_of l n (idStep t) (fun k => h ?_))
      intro x hx
      rcases List.mem_cons.1 hx with rfl | hx
      · exact c
      · exact k x hx
    · exact .inl c
theorem id_free (l : List Int) (n : Nat) (t : Int) (h : l.length ≤ n) (hn : n < 65535) : idFree l n t := by
  refine idFree_of l n t (fun c => ?_)
  have h1 := nodup_len _ l (idRun_nodup n t hn) c
  rw [idRun_length] at h1
  omega
/-- The next identifier. -/
def nextId (l : List Int) (t : Int) : Int := idNext l 64 t
theorem nextId_step {l : List Int} {t : Int} (hl : l.length ≤ 63) (h : idStep t ∈ l) : nextId l t = nextId l (idStep t) := by
  unfold nextId
  have hf : idFree l 63 (idStep t) := id_free l 63 _ hl (by decide)
  rw [idNext_up hf]
  show (if idStep t ∈ l then idNext l 63 (idStep t) else idStep t) = _
  rw [if_pos h]
theorem nextId_here {l : List Int} {t : Int} (h : idStep t ∉ l) : nextId l t = idStep t := by
  show (if idStep t ∈ l then idNext l 63 (idStep t) else idStep t) = _
  rw [if_neg h]
theorem nextId_not {l : List Int} {t : Int} (hl : l.length ≤ 64) : nextId l t ∉ l := idNext_free (id_free l 64 t hl (by decide))
theorem nextId_bd (l : List Int) (t : Int) : 1 ≤ nextId l t ∧ nextId l t ≤ 65535 := idNext_bd l 64 t
def idLeft (l : List Int) (t : Int) : Nat := idDist l 64 t
theorem idLeft_step {l : List Int} {t : Int} (hl : l.length ≤ 63) (h : idStep t ∈ l) : idLeft l (idStep t) < idLeft l t := by
  unfold idLeft
  have hf : idFree l 63 (idStep t) := id_free l 63 _ hl (by decide)
  have e : idDist l 64 t = idDist l 63 (idStep t) + 1 := by
    show (if idStep t ∈ l then idDist l 63 (idStep t) + 1 else 0) = _
    rw [if_pos h]
  rw [e, idDist_up hf]
  omega
theorem tmod_step {t : Int} (h : 0 ≤ t) : t.tmod 65535 + 1 = idStep t := by unfold idStep; rw [Int.tmod_eq_emod_of_nonneg h]
end Go.Proofs.Ytnclobnnnihpfaa
