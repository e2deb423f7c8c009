/- The document's 'from' (overlap), as a plain recursion, and the program's condition. -/
import Derived.Test.YtichhppfdjkgkaaDoorOverPlain
namespace Go.Proofs.YtichhppfdjkgkaaDoor
set_option linter.unusedVariables false
open Go.RowKit Pl

def lvl (x y : Bs) (fst : Bool) : Bool := if x = y then true else if x = [43] then (!fst || !dl y) else if y = [43] then (!fst || !dl x) else false
def frm (p q : Bool) : Bool → List Bs → List Bs → Bool
  | fst, x :: a, y :: b => if x = [35] then (if y = [35] then true else lvl [43] y fst) else if y = [35] then lvl [43] x fst else (lvl x y fst && frm p q false a b)
  | _, x :: _, [] => if x = [35] then p else false
  | _, [], y :: _ => if y = [35] then q else false
  | _, [], [] => true
def gR (p q oA oB : Bool) : List Bs → List Bs → Bool
  | [], [] => if oA then (oB || p) else (!oB || q)
  | _ :: _, [] => oB
  | [], _ :: _ => oA
  | x :: a, y :: b => (x == y || (x == [43] || y == [43])) && gR p q oA oB a b

theorem fok_rest {r : List Bs} (h : fok ([35] :: r) = true) : r = [] := by
  have := lv_rest (fok_cons h).1
  exact List.isEmpty_iff.1 this
theorem cut_cons {x : Bs} (hx : x ≠ [35]) (r : List Bs) : cutL (x :: r) = x :: cutL r ∧ allB (x :: r) = allB r := by
  by_cases hr : r = []
  · subst hr
    have h1 : allB [x] = false := by unfold allB; simp [hx]
    have h2 : allB ([] : List Bs) = false := rfl
    exact ⟨by rw [cutL_not h1, cutL_not h2], by rw [h1, h2]⟩
  · exact ⟨cutL_cons x hr, allB_cons x hr⟩
theorem cut_rest : cutL [[35]] = [] ∧ allB [[35]] = true := ⟨rfl, rfl⟩
theorem lvl_false (x y : Bs) : lvl x y false = (x == y || (x == [43] || y == [43])) := by
  unfold lvl
  by_cases h : x = y
  · rw [if_pos h]; simp [h]
  · rw [if_neg h]
    by_cases h1 : x = [43]
    · rw [if_pos h1]; simp [h1]
    · rw [if_neg h1]
      by_cases h2 : y = [43]
      · rw [if_pos h2]; simp [h2]
      · rw [if_neg h2]; simp [h, h1, h2]
theorem dl_plus : dl [43] = false := rfl
theorem lvl_true (x y : Bs) : lvl x y true = (lvl x y false && !((x == [43] && dl y) || (y == [43] && dl x))) := by
  unfold lvl
  by_cases h : x = y
  · subst h
    rw [if_pos rfl, if_pos rfl]
    by_cases h1 : x = [43]
    · subst h1; rfl
    · have : (x == [43]) = false := beq_eq_false_iff_ne.2 h1
      rw [this]; rfl
  · rw [if_neg h, if_neg h]
    by_cases h1 : x = [43]
    · rw [if_pos h1, if_pos h1]
      subst h1
      cases dl y <;> simp [dl_plus]
    · rw [if_neg h1, if_neg h1]
      have e1 : (x == [43]) = false := beq_eq_false_iff_ne.2 h1
      by_cases h2 : y = [43]
      · rw [if_pos h2, if_pos h2]
        subst h2
        rw [e1]
        cases dl x <;> simp
      · rw [if_neg h2, if_neg h2]; rfl

theorem frm_gR (p q : Bool) : ∀ a b : List Bs, fok a = true ∨ a = [] → fok b = true ∨ b = [] → frm p q false a b = gR p q (allB a) (allB b) (cutL a) (cutL b)
  | [], [], _, _ => rfl
  | x :: a, [], ha, _ => by
    by_cases hx : x = [35]
    · subst hx
      have := fok_rest (ha.resolve_right (by simp))
      subst this
      cases p <;> rfl
    · rw [(cut_cons hx a).1, (cut_cons hx a).2]
      show (if x = [35] then p else false) = _
      rw [if_neg hx]; rfl
  | [], y :: b, _, hb => by
    by_cases hy : y = [35]
    · subst hy
      have := fok_rest (hb.resolve_right (by simp))
      subst this
      cases q <;> rfl
    · rw [(cut_cons hy b).1, (cut_cons hy b).2]
      show (if y = [35] then q else false) = _
      rw [if_neg hy]; rfl
  | x :: a, y :: b, ha, hb => by
    have ha := ha.resolve_right (by simp)
    have hb := hb.resolve_right (by simp)
    show (if x = [35] then (if y = [35] then true else lvl [43] y false) else if y = [35] then lvl [43] x false else (lvl x y false && frm p q false a b)) = _
    by_cases hx : x = [35]
    · rw [if_pos hx]
      subst hx
      have := fok_rest ha
      subst this
      by_cases hy : y = [35]
      · rw [if_pos hy]
        subst hy
        have := fok_rest hb
        subst this
        rfl
      · rw [if_neg hy, (cut_cons hy b).1, (cut_cons hy b).2, lvl_false]
        show _ = true
        simp
    · rw [if_neg hx]
      by_cases hy : y = [35]
      · rw [if_pos hy]
        subst hy
        have := fok_rest hb
        subst this
        rw [(cut_cons hx a).1, (cut_cons hx a).2, lvl_false]
        show _ = true
        simp
      · rw [if_neg hy, (cut_cons hx a).1, (cut_cons hx a).2, (cut_cons hy b).1, (cut_cons hy b).2, lvl_false, frm_gR p q a b]
        · rfl
        · cases a with
          | nil => exact .inr rfl
          | cons z a => exact .inl (fok_cons ha).2
        · cases b with
          | nil => exact .inr rfl
          | cons z b => exact .inl (fok_cons hb).2
def crs (A B : List Bs) : Bool := !((wld A && dlr B) || (wld B && dlr A))
theorem frm_first (p q : Bool) (a b : List Bs) (ha : fok a = true) (hb : fok b = true) (na : a ≠ []) (nb : b ≠ []) :
    frm p q true a b = (frm p q false a b && crs (cutL a) (cutL b)) := by
  match a, na, b, nb with
  | x :: a, _, y :: b, _ =>
    show (if x = [35] then (if y = [35] then true else lvl [43] y true) else if y = [35] then lvl [43] x true else (lvl x y true && frm p q false a b))
      = ((if x = [35] then (if y = [35] then true else lvl [43] y false) else if y = [35] then lvl [43] x false else (lvl x y false && frm p q false a b)) && _)
    by_cases hx : x = [35]
    · rw [if_pos hx, if_pos hx]
      subst hx
      have := fok_rest ha
      subst this
      by_cases hy : y = [35]
      · rw [if_pos hy, if_pos hy]
        subst hy
        have := fok_rest hb
        subst this
        rfl
      · rw [if_neg hy, if_neg hy, (cut_cons hy b).1, lvl_true]
        congr 1
    · rw [if_neg hx, if_neg hx]
      by_cases hy : y = [35]
      · rw [if_pos hy, if_pos hy]
        subst hy
        have := fok_rest hb
        subst this
        rw [(cut_cons hx a).1, lvl_true]
        congr 1
        unfold crs wld dlr
        show (!([43] == [43] && dl x || x == [43] && dl [43])) = (!(x == [43] && dl [43] || [43] == [43] && dl x))
        rw [dl_plus]
        simp
      · rw [if_neg hy, if_neg hy, (cut_cons hx a).1, (cut_cons hy b).1, lvl_true]
        have : crs (x :: cutL a) (y :: cutL b) = (!((x == [43] && dl y) || (y == [43] && dl x))) := rfl
        rw [this]
        cases lvl x y false <;> cases frm p q false a b <;> simp

def lenR (p q oA oB : Bool) (n m : Nat) : Bool := if oA then (oB || (decide (n < m) || (decide (n = m) && p))) else if oB then (decide (m < n) || (decide (n = m) && q)) else decide (n = m)
theorem okA_cons (x y : Bs) (a b : List Bs) (i : Nat) : okA (x :: a) (y :: b) (i + 1) = okA a b i := rfl
theorem gR_iff (p q oA oB : Bool) : ∀ a b : List Bs, gR p q oA oB a b = true ↔ lenR p q oA oB a.length b.length = true ∧ ∀ i, i < a.length → i < b.length → okA a b i = true
  | [], [] => by
    cases oA <;> cases oB <;> simp [gR, lenR]
  | x :: a, [] => by
    cases oA <;> cases oB <;> simp [gR, lenR]
  | [], y :: b => by
    cases oA <;> cases oB <;> simp [gR, lenR]
  | x :: a, y :: b => by
    have e : lenR p q oA oB (x :: a).length (y :: b).length = lenR p q oA oB a.length b.length := by
      unfold lenR; simp
    show ((x == y || (x == [43] || y == [43])) && gR p q oA oB a b) = true ↔ _
    rw [Bool.and_eq_true, gR_iff p q oA oB a b, e]
    constructor
    · rintro ⟨h0, h1, h2⟩
      refine ⟨h1, fun i hi hj => ?_⟩
      cases i with
      | zero => exact h0
      | succ i => rw [okA_cons]; exact h2 i (by simpa using hi) (by simpa using hj)
    · rintro ⟨h1, h2⟩
      exact ⟨h2 0 (by simp) (by simp), h1, fun i hi hj => by have := h2 (i + 1) (by simpa using hi) (by simpa using hj); rwa [okA_cons] at this⟩
theorem okA_past {A B : List Bs} {i : Nat} (h : A.length ≤ i ∨ B.length ≤ i) : okA A B i = true := by
  unfold okA
  rcases h with h | h
  · rw [atL_ge h]; simp
  · rw [atL_ge (L := B) h]; simp
theorem lst_two : lst [[]] = 2 := rfl
theorem lst_else {L : List Bs} (h : L ≠ [[]]) : lst L = max 1 L.length := by unfold lst; rw [if_neg h]
theorem len_one_nil {L : List Bs} (h : L.length = 1) : L = [[]] ∨ L ≠ [[]] := Classical.em _
/-- The counts. -/
theorem tks_lenR {s t : Sh} (hs : shok s) (ht : shok t) {p q : Bool}
    (hp : s.op = true → t.op = false → s.lv.length = t.lv.length → p = !(decide (t.lv.length = 1) && decide (s.lv = [[]])))
    (hq : t.op = true → s.op = false → s.lv.length = t.lv.length → q = !(decide (s.lv.length = 1) && decide (t.lv = [[]]))) :
    (tks s (witN s t) && tks t (witN s t)) = lenR p q s.op t.op s.lv.length t.lv.length := by
  obtain ⟨A, oA⟩ := s
  obtain ⟨B, oB⟩ := t
  obtain ⟨s1, s2⟩ := hs
  obtain ⟨t1, t2⟩ := ht
  have hA : (A = [[]] ∧ lst A = 2 ∧ A.length = 1) ∨ (A ≠ [[]] ∧ lst A = max 1 A.length) := by
    by_cases h : A = [[]]
    · exact .inl ⟨h, by rw [h]; rfl, by rw [h]; rfl⟩
    · exact .inr ⟨h, lst_else h⟩
  have hB : (B = [[]] ∧ lst B = 2 ∧ B.length = 1) ∨ (B ≠ [[]] ∧ lst B = max 1 B.length) := by
    by_cases h : B = [[]]
    · exact .inl ⟨h, by rw [h]; rfl, by rw [h]; rfl⟩
    · exact .inr ⟨h, lst_else h⟩
  have zA : oA = false → 1 ≤ A.length ∧ lst A = A.length := fun h => by
    have n1 : A ≠ [] := fun e => by have := s1 e; rw [h] at this; cases this
    have n2 : A ≠ [[]] := fun e => by have := s2 e; rw [h] at this; cases this
    have := List.length_pos_iff.2 n1
    rw [lst_else n2]
    omega
  have zB : oB = false → 1 ≤ B.length ∧ lst B = B.length := fun h => by
    have n1 : B ≠ [] := fun e => by have := t1 e; rw [h] at this; cases this
    have n2 : B ≠ [[]] := fun e => by have := t2 e; rw [h] at this; cases this
    have := List.length_pos_iff.2 n1
    rw [lst_else n2]
    omega
  simp only at hp hq
  clear s1 s2 t1 t2
  unfold tks witN lenR
  cases oA <;> cases oB
  · have := zA rfl
    have := zB rfl
    rw [Bool.eq_iff_iff]
    simp
    omega
  · have h1 := zA rfl
    have hq' := hq rfl rfl
    rcases hB with ⟨e, h2, h3⟩ | ⟨e, h2⟩
    · rw [h2, h3]
      rw [h3] at hq'
      by_cases hn : A.length = 1
      · rw [hq' hn, hn]; simp [e]; omega
      · rw [Bool.eq_iff_iff]; simp; omega
    · by_cases hn : A.length = B.length
      · rw [hq' hn]; rw [Bool.eq_iff_iff]; simp [e]; omega
      · rw [Bool.eq_iff_iff]; simp [hn]; omega
  · have h1 := zB rfl
    have hp' := hp rfl rfl
    rcases hA with ⟨e, h2, h3⟩ | ⟨e, h2⟩
    · rw [h2, h3]
      rw [h3] at hp'
      by_cases hn : 1 = B.length
      · rw [hp' hn, ← hn]; simp [e]; omega
      · rw [Bool.eq_iff_iff]; simp [hn]; omega
    · by_cases hn : A.length = B.length
      · rw [hp' hn]; rw [Bool.eq_iff_iff]; simp [e]; omega
      · rw [Bool.eq_iff_iff]; simp [hn]; omega
  · rw [Bool.eq_iff_iff]
    simp
    rcases hA with ⟨e, h2, h3⟩ | ⟨e, h2⟩ <;> rcases hB with ⟨e', h2', h3'⟩ | ⟨e', h2'⟩ <;> omega
/-- The document's walk over two filters' levels is the program's condition. -/
theorem frm_wit {s t : Sh} (hs : shok s) (ht : shok t) {p q : Bool}
    (hp : s.op = true → t.op = false → s.lv.length = t.lv.length → p = !(decide (t.lv.length = 1) && decide (s.lv = [[]])))
    (hq : t.op = true → s.op = false → s.lv.length = t.lv.length → q = !(decide (s.lv.length = 1) && decide (t.lv = [[]]))) :
    (gR p q s.op t.op s.lv t.lv && crs s.lv t.lv) = witC s t := by
  have e := tks_lenR hs ht hp hq
  unfold witC crs
  rw [Bool.eq_iff_iff]
  simp only [Bool.and_eq_true, gR_iff, ← e, List.all_eq_true, List.mem_range, Bool.not_eq_true', Bool.or_eq_false_iff]
  have hall : (∀ i, i < s.lv.length → i < t.lv.length → okA s.lv t.lv i = true) ↔ ∀ i, i < witN s t → okA s.lv t.lv i = true := by
    constructor
    · intro h i _
      by_cases h1 : i < s.lv.length
      · by_cases h2 : i < t.lv.length
        · exact h i h1 h2
        · exact okA_past (.inr (by omega))
      · exact okA_past (.inl (by omega))
    · intro h i h1 _
      exact h i (by have := lst_ge s.lv; unfold witN; omega)
  rw [hall]
  constructor
  · rintro ⟨⟨⟨h1, h2⟩, h3⟩, h4, h5⟩
    exact ⟨h1, h2, h4, h5, h3⟩
  · rintro ⟨h1, h2, h4, h5, h3⟩
    exact ⟨⟨⟨h1, h2⟩, h3⟩, h4, h5⟩
end Go.Proofs.YtichhppfdjkgkaaDoor
