/- The document's 'under' (overlap), as a plain recursion, and the program's condition. -/
import Derived.Test.YtichhppfdjkgkaaDoorOverRef
namespace Go.Proofs.YtichhppfdjkgkaaDoor
set_option linter.unusedVariables false
open Go.RowKit Pl

def und (yy : Nat → Bool) : Nat → List Bs → List Bs → Bool
  | i, x :: a, y :: b => if x = [35] then (decide (0 < i) || (y == [35] || !dl y)) else if y = [35] then yy i else ((x == y || (x == [43] && !(decide (i = 0) && dl y))) && und yy (i + 1) a b)
  | _, x :: _, [] => if x = [35] then true else false
  | i, [], y :: _ => if y = [35] then yy i else false
  | _, [], [] => true
def gU (yy : Nat → Bool) (oA oB : Bool) : Nat → List Bs → List Bs → Bool
  | i, [], [] => oA || (!oB || yy i)
  | i, [], y :: _ => oA && (decide (0 < i) || !dl y)
  | i, _ :: _, [] => oB && yy i
  | i, x :: a, y :: b => (x == y || (x == [43] && !(decide (i = 0) && dl y))) && gU yy oA oB (i + 1) a b
theorem und_gU (yy : Nat → Bool) : ∀ (a b : List Bs) (i : Nat), fok a = true ∨ a = [] → fok b = true ∨ b = [] → und yy i a b = gU yy (allB a) (allB b) i (cutL a) (cutL b)
  | [], [], i, _, _ => rfl
  | x :: a, [], i, ha, _ => by
    show (if x = [35] then true else false) = _
    by_cases hx : x = [35]
    · subst hx
      have := fok_rest (ha.resolve_right (by simp))
      subst this
      rw [if_pos rfl]; rfl
    · rw [(cut_cons hx a).1, (cut_cons hx a).2, if_neg hx]
      rfl
  | [], y :: b, i, _, hb => by
    show (if y = [35] then yy i else false) = _
    by_cases hy : y = [35]
    · subst hy
      have := fok_rest (hb.resolve_right (by simp))
      subst this
      rw [if_pos rfl]
      show _ = (false || (!true || yy i))
      simp
    · rw [(cut_cons hy b).1, (cut_cons hy b).2, if_neg hy]
      rfl
  | x :: a, y :: b, i, ha, hb => by
    have ha := ha.resolve_right (by simp)
    have hb := hb.resolve_right (by simp)
    show (if x = [35] then (decide (0 < i) || (y == [35] || !dl y)) else if y = [35] then yy i else ((x == y || (x == [43] && !(decide (i = 0) && dl y))) && und yy (i + 1) a b)) = _
    by_cases hx : x = [35]
    · rw [if_pos hx]
      subst hx
      have := fok_rest ha
      subst this
      by_cases hy : y = [35]
      · subst hy
        have := fok_rest hb
        subst this
        show (decide (0 < i) || (true || _)) = (true || _)
        simp
      · rw [(cut_cons hy b).1, (cut_cons hy b).2, beq_eq_false_iff_ne.2 hy]
        rfl
    · rw [if_neg hx]
      by_cases hy : y = [35]
      · rw [if_pos hy]
        subst hy
        have := fok_rest hb
        subst this
        rw [(cut_cons hx a).1, (cut_cons hx a).2]
        rfl
      · rw [if_neg hy, (cut_cons hx a).1, (cut_cons hx a).2, (cut_cons hy b).1, (cut_cons hy b).2, und_gU yy a b]
        · rfl
        · cases a with
          | nil => exact .inr rfl
          | cons z a => exact .inl (fok_cons ha).2
        · cases b with
          | nil => exact .inr rfl
          | cons z b => exact .inl (fok_cons hb).2
def lenU (oA oB yv : Bool) (n m : Nat) : Bool := (decide (n ≤ m) && oA) || ((oB && (decide (m ≤ n) && yv)) || (!oA && (!oB && decide (n = m))))
theorem gapA_cons (x y : Bs) (a b : List Bs) (i : Nat) : gapA (x :: a) (y :: b) (i + 1) = gapA a b i := rfl
theorem gU_iff (yy : Nat → Bool) (oA oB : Bool) : ∀ (a b : List Bs) (i : Nat), gU yy oA oB i a b = true ↔
    lenU oA oB (yy (i + b.length)) a.length b.length = true ∧ (∀ j, j < a.length → j < b.length → gapA a b j = false) ∧ (i = 0 → (wld a && dlr b) = false)
  | [], [], i => by
    have : (wld [] && dlr []) = false := rfl
    cases oA <;> cases oB <;> simp [gU, lenU, this]
  | [], y :: b, i => by
    have : (wld [] && dlr (y :: b)) = dl y := rfl
    cases oA <;> cases oB <;> simp [gU, lenU, this] <;> (try (cases dl y <;> simp <;> omega))
  | x :: a, [], i => by
    have : (wld (x :: a) && dlr []) = false := by show (_ && false) = false; simp
    cases oA <;> cases oB <;> simp [gU, lenU, this]
  | x :: a, y :: b, i => by
    have h0 : (wld (x :: a) && dlr (y :: b)) = (x == [43] && dl y) := rfl
    have e : lenU oA oB (yy (i + (y :: b).length)) (x :: a).length (y :: b).length = lenU oA oB (yy (i + 1 + b.length)) a.length b.length := by
      have : i + (y :: b).length = i + 1 + b.length := by simp; omega
      rw [this]; unfold lenU; simp
    show ((x == y || (x == [43] && !(decide (i = 0) && dl y))) && gU yy oA oB (i + 1) a b) = true ↔ _
    rw [Bool.and_eq_true, gU_iff yy oA oB a b, e, h0]
    have hg : gapA (x :: a) (y :: b) 0 = (!(x == [43]) && !(x == y)) := rfl
    have hxy : x = y → (x == [43] && dl y) = false := by
      intro hh
      subst hh
      by_cases h1 : x = [43]
      · subst h1; rfl
      · rw [beq_eq_false_iff_ne.2 h1]; rfl
    constructor
    · rintro ⟨h1, h2, h3, h4⟩
      refine ⟨h2, fun j hi hj => ?_, fun hi => ?_⟩
      · cases j with
        | zero =>
          rw [hg]
          by_cases hh : x = y
          · simp [hh]
          · rw [beq_eq_false_iff_ne.2 hh] at h1
            cases hx : (x == [43])
            · rw [hx] at h1; simp at h1
            · rfl
        | succ j => rw [gapA_cons]; exact h3 j (by simpa using hi) (by simpa using hj)
      · by_cases hh : x = y
        · exact hxy hh
        · rw [beq_eq_false_iff_ne.2 hh, hi] at h1
          revert h1
          cases (x == [43]) <;> cases dl y <;> simp
    · rintro ⟨h2, h3, h4⟩
      refine ⟨?_, h2, fun j hi hj => by have := h3 (j + 1) (by simpa using hi) (by simpa using hj); rwa [gapA_cons] at this, fun h => absurd h (by omega)⟩
      have h5 := h3 0 (by simp) (by simp)
      rw [hg] at h5
      cases hh : (x == y)
      · rw [hh] at h5
        cases hx : (x == [43])
        · rw [hx] at h5; cases h5
        · rw [hx] at h4
          by_cases hi : i = 0
          · have h6 := h4 hi
            rw [Bool.true_and] at h6
            rw [h6]; simp
          · simp [hi]
      · rfl
theorem gapC_false {s t : Sh} : gapC s t = false ↔ tks s (lst t.lv) = true ∧ (wld s.lv && dlr t.lv) = false ∧ (∀ j, j < lst t.lv → j < s.lv.length → gapA s.lv t.lv j = false) ∧ (t.op && !s.op) = false := by
  unfold gapC gapB
  simp only [Bool.or_eq_false_iff, List.any_eq_false, List.mem_range, Bool.not_eq_false', Bool.not_eq_true]
  constructor
  · rintro ⟨⟨⟨h1, h2⟩, h3⟩, h4⟩
    exact ⟨h1, h2, fun j a b => h3 j (by omega), h4⟩
  · rintro ⟨h1, h2, h3, h4⟩
    exact ⟨⟨⟨h1, h2⟩, fun j h => h3 j (by omega) (by omega)⟩, h4⟩
theorem gapA_plus {A B : List Bs} {j : Nat} (h : atL A j = [43]) : gapA A B j = false := by unfold gapA; rw [h]; rfl
theorem plus_gapA {A B : List Bs} {j : Nat} (h : gapA A B j = false) (hb : B.length ≤ j) : atL A j = [43] := by
  unfold gapA at h
  rw [atL_ge hb] at h
  by_cases h1 : atL A j = [43]
  · exact h1
  · rw [beq_eq_false_iff_ne.2 h1] at h; cases h
theorem one_of {A : List Bs} (h : A.length = 1) : A = [atL A 0] := by
  match A, h with
  | [x], _ => rfl
theorem lst_closed {t : Sh} (ht : shok t) (h : t.op = false) : lst t.lv = t.lv.length := by
  have n1 : t.lv ≠ [] := fun e => by have := ht.1 e; rw [h] at this; cases this
  have n2 : t.lv ≠ [[]] := fun e => by have := ht.2 e; rw [h] at this; cases this
  have := List.length_pos_iff.2 n1
  rw [lst_else n2]
  omega
/-- The document's 'under' is: there is no gap. -/
theorem und_gap {s t : Sh} (hs : shok s) (ht : shok t) {yy : Nat → Bool}
    (h0 : yy 0 = (s.op && decide (s.lv = [[43]])))
    (h1 : t.lv.length = 1 → yy 1 = (decide (t.lv = [[]]) && (s.op && (decide (s.lv.length = 2) && decide (atL s.lv 1 = [43])))))
    (h2 : ∀ k, yy (k + 2) = false) : gU yy s.op t.op 0 s.lv t.lv = !gapC s t := by
  rw [Bool.eq_iff_iff, gU_iff, Bool.not_eq_true', gapC_false, Nat.zero_add]
  have hge := lst_ge t.lv
  constructor
  · rintro ⟨hl, hg, hd⟩
    have hd := hd rfl
    unfold lenU at hl
    simp only [Bool.or_eq_true, Bool.and_eq_true, decide_eq_true_eq, Bool.not_eq_true'] at hl
    rcases hl with ⟨hl, ho⟩ | ⟨ho, hl, hy⟩ | ⟨ho, ht2, hl⟩
    · refine ⟨tks_iff.2 ?_, hd, fun j a b => hg j b (by omega), by rw [ho]; simp⟩
      by_cases hh : lst t.lv = s.lv.length
      · exact .inl hh
      · exact .inr ⟨ho, by omega⟩
    · match hk : t.lv.length, hy with
      | 0, hy =>
        rw [h0] at hy
        simp only [Bool.and_eq_true, decide_eq_true_eq] at hy
        have hn := List.eq_nil_of_length_eq_zero hk
        refine ⟨tks_iff.2 (.inl ?_), hd, fun j a b => ?_, by rw [hy.1]; simp⟩
        · rw [hn, hy.2]; rfl
        · rw [hy.2] at b
          have : j = 0 := by simpa using b
          subst this
          exact gapA_plus (by rw [hy.2]; rfl)
      | 1, hy =>
        rw [h1 hk] at hy
        simp only [Bool.and_eq_true, decide_eq_true_eq] at hy
        obtain ⟨y1, y2, y3, y4⟩ := hy
        refine ⟨tks_iff.2 (.inl ?_), hd, fun j a b => ?_, by rw [y2]; simp⟩
        · rw [y1, y3]; rfl
        · by_cases hj : j = 0
          · exact hg j b (by omega)
          · have : j = 1 := by omega
            subst this
            exact gapA_plus y4
      | k + 2, hy => rw [h2] at hy; cases hy
    · have := lst_closed ht ht2
      exact ⟨tks_iff.2 (.inl (by omega)), hd, fun j a b => hg j b (by omega), by rw [ht2]; rfl⟩
  · rintro ⟨hk, hd, hg, ho⟩
    refine ⟨?_, fun j a b => hg j (by omega) a, fun _ => hd⟩
    unfold lenU
    simp only [Bool.or_eq_true, Bool.and_eq_true, decide_eq_true_eq, Bool.not_eq_true']
    have hle := tks_le hk
    cases hso : s.op
    · rw [hso] at ho
      have hto : t.op = false := by simpa using ho
      have := lst_closed ht hto
      rcases tks_iff.1 hk with h | ⟨h, _⟩
      · exact .inr (.inr ⟨rfl, hto, by omega⟩)
      · rw [hso] at h; cases h
    · by_cases hc : s.lv.length ≤ t.lv.length
      · exact .inl ⟨hc, rfl⟩
      · right; left
        by_cases ht1 : t.lv = [[]]
        · have hl : t.lv.length = 1 := by rw [ht1]; rfl
          have hl2 : lst t.lv = 2 := by rw [ht1]; rfl
          have := plus_gapA (hg 1 (by omega) (by omega)) (by omega)
          refine ⟨ht.2 ht1, by omega, ?_⟩
          rw [hl, h1 hl, hso]
          simp only [Bool.and_eq_true, decide_eq_true_eq]
          exact ⟨ht1, trivial, by omega, this⟩
        · have hl := lst_else ht1
          have hz : t.lv.length = 0 := by omega
          have hn := List.eq_nil_of_length_eq_zero hz
          have := plus_gapA (hg 0 (by omega) (by omega)) (by omega)
          refine ⟨ht.1 hn, by omega, ?_⟩
          rw [hz, h0, hso]
          simp only [Bool.and_eq_true, decide_eq_true_eq]
          exact ⟨trivial, by have h9 := one_of (A := s.lv) (by omega); rw [this] at h9; exact h9⟩
end Go.Proofs.YtichhppfdjkgkaaDoor
