/- Plain laws for TopicMore; no program in sight. -/
import Derived.Test.YtjkpmccnieodjaaDoorMatchPlain
namespace Go.Proofs.YtjkpmccnieodjaaDoor.Pl
open Go

theorem mt_open {F N : ByteArray} (h : mtB F N = true) : filtB F = true ∧ nameB N = true ∧ dol F.data.toList N.data.toList = false ∧ mtL (lev F.data.toList) (lev N.data.toList) = true := by
  unfold mtB at h
  simp only [Bool.and_eq_true, Bool.not_eq_true'] at h
  exact ⟨h.1, h.2.1, h.2.2.1, h.2.2.2⟩
theorem mt_mk {F N : ByteArray} (h1 : filtB F = true) (h2 : nameB N = true) (h3 : dol F.data.toList N.data.toList = false) (h4 : mtL (lev F.data.toList) (lev N.data.toList) = true) : mtB F N = true := by
  rw [mt_lev h1 h2 h3]; exact h4
/-- A name with levels more. -/
def lgr (N M : ByteArray) : ByteArray := (N ++ ⟨#[47]⟩) ++ M
/-- A filter with all that follow left open. -/
def opn (F : ByteArray) : ByteArray := F ++ ⟨#[47, 35]⟩
theorem lgr_data (N M : ByteArray) : (lgr N M).data.toList = N.data.toList ++ 47 :: M.data.toList := by
  unfold lgr
  simp
theorem opn_data (F : ByteArray) : (opn F).data.toList = F.data.toList ++ 47 :: [35] := by
  unfold opn
  simp
theorem lgr_lev (N M : ByteArray) : lev (lgr N M).data.toList = lev N.data.toList ++ lev M.data.toList := by rw [lgr_data, lev_app]
theorem opn_lev (F : ByteArray) : lev (opn F).data.toList = lev F.data.toList ++ [[35]] := by rw [opn_data, lev_app]; rfl
theorem dol_lgr {F : Bs} {N M : ByteArray} (h : N.data.toList ≠ []) : dol F (lgr N M).data.toList = dol F N.data.toList := by
  unfold dol
  rw [lgr_data]
  cases hN : N.data.toList with
  | nil => exact absurd hN h
  | cons a r => rfl
theorem dol_opn {F : ByteArray} {N : Bs} (h : F.data.toList ≠ []) : dol (opn F).data.toList N = dol F.data.toList N := by
  unfold dol
  rw [opn_data]
  cases hF : F.data.toList with
  | nil => exact absurd hF h
  | cons a r => rfl
theorem more_a {F N : ByteArray} (M : ByteArray) (h : mtB F N = true) (ha : allB (lev F.data.toList) = true) (hl : nameB (lgr N M) = true) : mtB F (lgr N M) = true := by
  obtain ⟨h1, h2, h3, h4⟩ := mt_open h
  exact mt_mk h1 hl (by rw [dol_lgr (name_ne h2)]; exact h3) (by rw [lgr_lev]; exact mtL_app h4 ha)
theorem more_b {F N : ByteArray} (h : mtB F N = true) (ho : filtB (opn F) = true) : mtB (opn F) N = true := by
  obtain ⟨h1, h2, h3, h4⟩ := mt_open h
  exact mt_mk ho h2 (by rw [dol_opn (filt_ne h1)]; exact h3) (by rw [opn_lev]; have := mtL_open (m := []) h4; rw [List.append_nil] at this; exact this)
theorem more_c {F N : ByteArray} (M : ByteArray) (h : mtB F N = true) (ho : filtB (opn F) = true) (hl : nameB (lgr N M) = true) : mtB (opn F) (lgr N M) = true := by
  obtain ⟨h1, h2, h3, h4⟩ := mt_open h
  exact mt_mk ho hl (by rw [dol_opn (filt_ne h1), dol_lgr (name_ne h2)]; exact h3) (by rw [opn_lev, lgr_lev]; exact mtL_open h4)
theorem more_d {F N : ByteArray} (M : ByteArray) (h : mtB F N = true) (ha : allB (lev F.data.toList) = false) : mtB F (lgr N M) = false := by
  obtain ⟨h1, h2, h3, h4⟩ := mt_open h
  cases hl : nameB (lgr N M)
  · exact other_match hl
  · rw [mt_lev h1 hl (by rw [dol_lgr (name_ne h2)]; exact h3), lgr_lev]
    exact mtL_longer h4 (filt_szd2 h1).2 ha (lev_ne _)
end Go.Proofs.YtjkpmccnieodjaaDoor.Pl
