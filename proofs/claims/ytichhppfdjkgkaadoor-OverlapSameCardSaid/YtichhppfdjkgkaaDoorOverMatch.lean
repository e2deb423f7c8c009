/- Shapes of filters, and the document's match of a topic of any length. -/
import Derived.Test.YtichhppfdjkgkaaDoorOverRef2
namespace Go.Proofs.YtichhppfdjkgkaaDoor
set_option linter.unusedVariables false
open Go.RowKit Pl

theorem shp_ok {F : ByteArray} (h : filtB F = true) : shp F = ⟨cutL (lev F.data.toList), allB (lev F.data.toList)⟩ := by unfold shp; rw [if_pos h]
theorem cut_open {L : List Bs} (h : allB L = true) : L = cutL L ++ [[35]] := by
  have h1 : L.getLast? = some [35] := beq_iff_eq.1 h
  rw [cutL_all h]
  obtain ⟨ne, e⟩ := List.getLast?_eq_some_iff.1 h1 |> fun ⟨ys, hy⟩ => (⟨by rw [hy]; simp, by rw [hy]; simp⟩ : L ≠ [] ∧ L = L.dropLast ++ [[35]])
  exact e
theorem shok_shp {F : ByteArray} (h : filtB F = true) : shok (shp F) := by
  rw [shp_ok h]
  cases ha : allB (lev F.data.toList)
  · refine ⟨fun e => ?_, fun e => ?_⟩
    · rw [cutL_not ha] at e
      exact absurd e (lev_ne _)
    · rw [cutL_not ha] at e
      have e : lev F.data.toList = [[]] := e
      have := jn_lev F.data.toList
      rw [e] at this
      exact absurd this.symm (filt_ne h)
  · exact ⟨fun _ => rfl, fun _ => rfl⟩
theorem shp_len {F : ByteArray} (h : filtB F = true) : (lev F.data.toList).length = (shp F).lv.length + (if (shp F).op then 1 else 0) := by
  rw [shp_ok h]
  cases ha : allB (lev F.data.toList)
  · rw [cutL_not ha]; rfl
  · have := congrArg List.length (cut_open ha)
    simpa using this
theorem shp_head {F : ByteArray} (h : filtB F = true) : (lev F.data.toList)[0]? = some (if (shp F).lv = [] then [35] else atL (shp F).lv 0) := by
  rw [shp_ok h]
  cases ha : allB (lev F.data.toList)
  · rw [cutL_not ha]
    show _ = some (if lev F.data.toList = [] then _ else _)
    rw [if_neg (lev_ne _)]
    exact atL_lt (List.length_pos_iff.2 (lev_ne _))
  · show _ = some (if cutL (lev F.data.toList) = [] then _ else _)
    by_cases hc : cutL (lev F.data.toList) = []
    · rw [if_pos hc, cut_open ha, hc]; rfl
    · rw [if_neg hc]
      have hp := List.length_pos_iff.2 hc
      rw [cut_open ha, List.getElem?_append_left hp]
      rw [← cut_open ha]
      exact atL_lt hp
/-- The document's answers to 'have the two a topic in common' and 'does the first cover the second'. -/
def refOv (F G : ByteArray) : Bool := filtB F && (filtB G && (
  let A := lev F.data.toList
  let B := lev G.data.toList
  frm (!(decide (B.length = 1)) || !(decide (A.getD 0 [] = []))) (!(decide (A.length = 1)) || !(decide (B.getD 0 [] = []))) true A B))
def ovB (F G : ByteArray) : Bool := filtB F && (filtB G && witC (shp F) (shp G))
theorem getD_some {L : List Bs} {x : Bs} (h : L[0]? = some x) : L.getD 0 [] = x := by rw [List.getD_eq_getElem?_getD, h]; rfl
theorem head_arg {s t : Sh} (h2 : t.op = false) (h3 : s.lv.length = t.lv.length) :
    (!(decide (t.lv.length + (if t.op = true then 1 else 0) = 1)) || !(decide ((if s.lv = [] then [35] else atL s.lv 0) = []))) = !(decide (t.lv.length = 1) && decide (s.lv = [[]])) := by
  rw [h2, if_neg (by simp), Nat.add_zero]
  by_cases h : t.lv.length = 1
  · have h9 := one_of (h3.trans h)
    have hne : s.lv ≠ [] := fun e => by rw [e] at h9; cases h9
    rw [if_neg hne]
    have : decide (atL s.lv 0 = []) = decide (s.lv = [[]]) := by
      apply decide_eq_decide.2
      constructor
      · intro e; rw [e] at h9; exact h9
      · intro e; rw [e]; rfl
    rw [this, h]
    simp
  · simp [h]
theorem refOv_eq (F G : ByteArray) : refOv F G = ovB F G := by
  unfold refOv ovB
  cases hF : filtB F
  · rfl
  cases hG : filtB G
  · rfl
  have fF := (filt_szd2 hF).2
  have fG := (filt_szd2 hG).2
  show frm _ _ true (lev F.data.toList) (lev G.data.toList) = _
  rw [frm_first _ _ _ _ fF fG (lev_ne _) (lev_ne _), frm_gR _ _ _ _ (.inl fF) (.inl fG)]
  have hw := fun p q hp hq => frm_wit (p := p) (q := q) (shok_shp hF) (shok_shp hG) hp hq
  have lF := shp_len hF
  have lG := shp_len hG
  have eF := getD_some (shp_head hF)
  have eG := getD_some (shp_head hG)
  rw [eF, eG, lF, lG]
  have oF : (shp F).op = allB (lev F.data.toList) := by rw [shp_ok hF]
  have oG : (shp G).op = allB (lev G.data.toList) := by rw [shp_ok hG]
  have vF : (shp F).lv = cutL (lev F.data.toList) := by rw [shp_ok hF]
  have vG : (shp G).lv = cutL (lev G.data.toList) := by rw [shp_ok hG]
  rw [← oF, ← oG, ← vF, ← vG]
  apply hw
  · intro h1 h2 h3
    exact head_arg h2 h3
  · intro h1 h2 h3
    exact head_arg h2 h3.symm
def yyR (A B : List Bs) (k : Nat) : Bool := if k = 0 then decide (A = [[43], [35]]) else if k = 1 then decide (B.getD 0 [] = []) && (decide (A.length = 3) && (decide (A.getD 1 [] = [43]) && decide (A.getD 2 [] = [35]))) else false
def refCv (F G : ByteArray) : Bool := filtB F && (filtB G && und (yyR (lev F.data.toList) (lev G.data.toList)) 0 (lev F.data.toList) (lev G.data.toList))
def cvB (F G : ByteArray) : Bool := filtB F && (filtB G && !gapC (shp F) (shp G))
theorem yy_zero (L : List Bs) : decide (L = [[43], [35]]) = (allB L && decide (cutL L = [[43]])) := by
  cases ha : allB L
  · rw [Bool.false_and]
    apply decide_eq_false
    rintro rfl
    exact absurd ha (by decide)
  · rw [Bool.true_and]
    apply decide_eq_decide.2
    constructor
    · rintro rfl; rfl
    · intro e; rw [cut_open ha, e]; rfl
theorem yy_one (L : List Bs) : (decide (L.length = 3) && (decide (L.getD 1 [] = [43]) && decide (L.getD 2 [] = [35]))) = (allB L && (decide ((cutL L).length = 2) && decide (atL (cutL L) 1 = [43]))) := by
  rw [Bool.eq_iff_iff]
  simp only [Bool.and_eq_true, decide_eq_true_eq]
  constructor
  · rintro ⟨h1, h2, h3⟩
    match L, h1, h2, h3 with
    | [x, y, z], _, h2, h3 =>
      have h2 : y = [43] := h2
      have h3 : z = [35] := h3
      subst h2 h3
      exact ⟨rfl, rfl, rfl⟩
  · rintro ⟨ha, h1, h2⟩
    have e := cut_open ha
    match hc : cutL L, h1, h2 with
    | [x, y], _, h2 =>
      have h2 : y = [43] := h2
      rw [hc] at e
      rw [e, h2]
      exact ⟨rfl, rfl, rfl⟩
theorem refCv_eq (F G : ByteArray) : refCv F G = cvB F G := by
  unfold refCv cvB
  cases hF : filtB F
  · rfl
  cases hG : filtB G
  · rfl
  have fF := (filt_szd2 hF).2
  have fG := (filt_szd2 hG).2
  show und _ 0 (lev F.data.toList) (lev G.data.toList) = !gapC (shp F) (shp G)
  rw [und_gU _ _ _ _ (.inl fF) (.inl fG)]
  have oF : (shp F).op = allB (lev F.data.toList) := by rw [shp_ok hF]
  have oG : (shp G).op = allB (lev G.data.toList) := by rw [shp_ok hG]
  have vF : (shp F).lv = cutL (lev F.data.toList) := by rw [shp_ok hF]
  have vG : (shp G).lv = cutL (lev G.data.toList) := by rw [shp_ok hG]
  have eG := getD_some (shp_head hG)
  rw [← oF, ← oG, ← vF, ← vG]
  apply und_gap (shok_shp hF) (shok_shp hG)
  · show decide (lev F.data.toList = [[43], [35]]) = _
    rw [yy_zero, oF, vF]
  · intro hl
    show (decide ((lev G.data.toList).getD 0 [] = []) && _) = _
    rw [eG]
    have h9 := one_of hl
    have hne : (shp G).lv ≠ [] := fun e => by rw [e] at h9; cases h9
    rw [if_neg hne]
    have : decide (atL (shp G).lv 0 = []) = decide ((shp G).lv = [[]]) := by
      apply decide_eq_decide.2
      constructor
      · intro e; rw [e] at h9; exact h9
      · intro e; rw [e]; rfl
    rw [this, yy_one, ← oF, ← vF]
  · intro k
    rfl
end Go.Proofs.YtichhppfdjkgkaaDoor
