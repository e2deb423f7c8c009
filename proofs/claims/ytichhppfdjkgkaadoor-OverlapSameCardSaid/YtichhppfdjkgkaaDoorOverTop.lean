/- Shapes and topics: the document's match of a topic of any length is the shape's. -/
import Derived.Test.YtichhppfdjkgkaaDoorOverMatch
namespace Go.Proofs.YtichhppfdjkgkaaDoor
set_option linter.unusedVariables false
open Go.RowKit Pl

def free (N : Bs) : Bool := !has 43 N && (!has 35 N && !has 0 N)
/-- The document's match of a topic of any length. -/
def rmB (F N : ByteArray) : Bool := filtB F && (decide (0 < N.size) && (free N.data.toList && (!dol F.data.toList N.data.toList && mtL (lev F.data.toList) (lev N.data.toList))))
theorem eqB_iff : ∀ a b : List Bs, eqB a b = true ↔ ∀ i, i < a.length → i < b.length → atL a i = [43] ∨ atL a i = b.getD i []
  | [], b => by constructor <;> simp [eqB]
  | _ :: _, [] => by constructor <;> simp [eqB]
  | x :: a, y :: b => by
    show ((x == [43] || x == y) && eqB a b) = true ↔ _
    rw [Bool.and_eq_true, eqB_iff a b]
    constructor
    · rintro ⟨h1, h2⟩ i hi hj
      cases i with
      | zero =>
        have h1 : x = [43] ∨ x = y := by simpa using h1
        exact h1
      | succ i => exact h2 i (by simpa using hi) (by simpa using hj)
    · intro h
      have h1 : x = [43] ∨ x = y := h 0 (by simp) (by simp)
      exact ⟨by simpa using h1, fun i hi hj => h (i + 1) (by simpa using hi) (by simpa using hj)⟩
theorem lev_head (l : Bs) : ∃ x r, lev l = x :: r ∧ l.head? = if x = [] then (if r = [] then none else some 47) else x.head? := by
  match h : lev l with
  | [] => exact absurd h (lev_ne l)
  | x :: r =>
    refine ⟨x, r, rfl, ?_⟩
    rw [← head_jn, ← h, jn_lev]
theorem dl_lev (l : Bs) : dl ((lev l).getD 0 []) = (l.head? == some 36) := by
  obtain ⟨x, r, h, e⟩ := lev_head l
  rw [h, e]
  show (x.head? == some 36) = _
  by_cases hx : x = []
  · rw [if_pos hx, hx]
    by_cases hr : r = []
    · rw [if_pos hr]; rfl
    · rw [if_neg hr]; rfl
  · rw [if_neg hx]
theorem mem_head {x : Bs} {c : UInt8} (h : x.head? = some c) : has c x = true := by
  cases x with
  | nil => cases h
  | cons d t =>
    simp only [List.head?_cons, Option.some.injEq] at h
    subst h
    simp [has]
theorem wld_lev {F : ByteArray} (h : filtB F = true) : wld (shp F).lv = (F.data.toList.head? == some 43 || F.data.toList.head? == some 35) := by
  have hf := (filt_szd2 h).2
  have hh := shp_head h
  obtain ⟨x, r, e, e2⟩ := lev_head F.data.toList
  rw [e] at hf hh
  have hx := (fok_cons hf).1
  simp only [List.getElem?_cons_zero, Option.some.injEq] at hh
  unfold lvOK at hx
  rw [e2, Bool.eq_iff_iff]
  simp only [Bool.or_eq_true, beq_iff_eq]
  constructor
  · intro hw
    have hw : atL (shp F).lv 0 = [43] := beq_iff_eq.1 hw
    by_cases hc : (shp F).lv = []
    · rw [if_pos hc] at hh
      subst hh
      exact .inr rfl
    · rw [if_neg hc, hw] at hh
      subst hh
      exact .inl rfl
  · intro hw
    by_cases hn : x = []
    · rw [if_pos hn] at hw
      by_cases hr : r = []
      · rw [if_pos hr] at hw; simp at hw
      · rw [if_neg hr] at hw; simp at hw
    · rw [if_neg hn] at hw
      rcases hw with hw | hw
      · rw [mem_head hw] at hx
        simp only [Bool.and_eq_true, Bool.or_eq_true, Bool.not_true, Bool.false_or, beq_iff_eq] at hx
        have := hx.1
        subst this
        by_cases hc : (shp F).lv = []
        · rw [hc]; rfl
        · rw [if_neg hc] at hh
          exact beq_iff_eq.2 hh.symm
      · rw [mem_head hw] at hx
        simp only [Bool.and_eq_true, Bool.or_eq_true, Bool.not_true, Bool.false_or, beq_iff_eq] at hx
        have := hx.2.1
        subst this
        by_cases hc : (shp F).lv = []
        · rw [hc]; rfl
        · have hr := fok_rest hf
          subst hr
          exfalso
          apply hc
          rw [shp_ok h, e]
          rfl
theorem mt_iff {F : ByteArray} (h : filtB F = true) (l : Bs) :
    MT (shp F) (lev l) ↔ mtL (lev F.data.toList) (lev l) = true ∧ dol F.data.toList l = false := by
  have hd : dol F.data.toList l = (dl ((lev l).getD 0 []) && wld (shp F).lv) := by
    rw [dl_lev, wld_lev h]; rfl
  rw [hd, ← pmt_mtL _ (lev_ne _) (filt_szd2 h).2]
  have oF : (shp F).op = allB (lev F.data.toList) := by rw [shp_ok h]
  have vF : (shp F).lv = cutL (lev F.data.toList) := by rw [shp_ok h]
  unfold MT pmt
  rw [← oF, ← vF, tks_iff]
  simp only [Bool.and_eq_true, Bool.or_eq_true, Bool.not_eq_true', decide_eq_false_iff_not, eqB_iff, Bool.and_eq_false_iff]
  constructor
  · rintro ⟨h1, h2, h3⟩
    have hop : (shp F).op = true ∨ ¬(shp F).lv.length < (lev l).length := by
      rcases h1 with h1 | h1
      · right; omega
      · exact .inl h1.1
    refine ⟨⟨by omega, hop, fun i hi hj => ?_⟩, ?_⟩
    · rw [List.getD_eq_getElem?_getD, List.getElem?_take, if_pos hi, ← List.getD_eq_getElem?_getD]
      exact h2 i hi
    · cases hw : wld (shp F).lv
      · exact .inr rfl
      · left
        cases hq : dl ((lev l).getD 0 [])
        · rfl
        · exact absurd ⟨hw, hq⟩ h3
  · rintro ⟨⟨h1, h2, h3⟩, h4⟩
    refine ⟨?_, fun i hi => ?_, ?_⟩
    · by_cases hc : (lev l).length = (shp F).lv.length
      · exact .inl hc
      · exact .inr ⟨h2.resolve_right (by omega), by omega⟩
    · have := h3 i hi (by simp; omega)
      rwa [List.getD_eq_getElem?_getD, List.getElem?_take, if_pos hi, ← List.getD_eq_getElem?_getD] at this
    · rintro ⟨q1, q2⟩
      rcases h4 with h4 | h4
      · rw [h4] at q2; cases q2
      · rw [h4] at q1; cases q1
end Go.Proofs.YtichhppfdjkgkaaDoor
