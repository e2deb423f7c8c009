/- What the overlap's answers mean of topics; no program in sight. -/
import Derived.Test.YtichhppfdjkgkaaDoorOverStr
namespace Go.Proofs.YtichhppfdjkgkaaDoor
set_option linter.unusedVariables false
open Go.RowKit Pl

def mkB (l : Bs) : ByteArray := ⟨l.toArray⟩
theorem mkB_list (l : Bs) : (mkB l).data.toList = l := by simp [mkB]
theorem mkB_size (l : Bs) : (mkB l).size = l.length := by simp [mkB, ByteArray.size]
theorem tok_lev {l : Bs} (h : l ≠ []) : tok (lev l) := by
  refine ⟨lev_ne l, fun e => h ?_⟩
  rw [← jn_lev l, e]; rfl
theorem rm_iff {F N : ByteArray} : rmB F N = true ↔ filtB F = true ∧ 0 < N.size ∧ free N.data.toList = true ∧ MT (shp F) (lev N.data.toList) := by
  unfold rmB
  simp only [Bool.and_eq_true, decide_eq_true_eq, Bool.not_eq_true']
  constructor
  · rintro ⟨h1, h2, h3, h4, h5⟩
    exact ⟨h1, h2, h3, (mt_iff h1 _).2 ⟨h5, h4⟩⟩
  · rintro ⟨h1, h2, h3, h4⟩
    have := (mt_iff h1 _).1 h4
    exact ⟨h1, h2, h3, this.2, this.1⟩
theorem ne_of_size {N : ByteArray} (h : 0 < N.size) : N.data.toList ≠ [] := by
  intro e
  have : N.data.toList.length = N.size := rfl
  rw [e] at this
  simp at this
  omega
theorem rm_good {F : ByteArray} {L : List Bs} (hF : filtB F = true) (hL : tok L) (hg : ∀ x ∈ L, good x) : rmB F (mkB (jn L)) = true ↔ MT (shp F) L := by
  obtain ⟨h1, h2, h3⟩ := good_str hL hg
  rw [rm_iff, mkB_list, mkB_size, h1]
  exact ⟨fun h => h.2.2.2, fun h => ⟨hF, List.length_pos_iff.2 h3, h2, h⟩⟩
def witS (F G : ByteArray) : ByteArray := mkB (jn (witL (shp F) (shp G)))
def gapS (F G : ByteArray) : ByteArray := mkB (jn (gapL (shp F) (shp G)))
theorem wit_good {F G : ByteArray} (hF : filtB F = true) (hG : filtB G = true) : ∀ x ∈ witL (shp F) (shp G), good x :=
  fil_good hF hG fun i => by unfold pickL; split <;> simp
theorem gap_good {F G : ByteArray} (hF : filtB F = true) (hG : filtB G = true) : ∀ x ∈ gapL (shp F) (shp G), good x :=
  fil_good hF hG fun i => .inr rfl
theorem wit_rm {F G : ByteArray} (h : ovB F G = true) : rmB F (witS F G) = true ∧ rmB G (witS F G) = true := by
  unfold ovB at h
  simp only [Bool.and_eq_true] at h
  obtain ⟨hF, hG, hw⟩ := h
  obtain ⟨h1, h2, h3⟩ := wit_sound hw
  have hg := wit_good hF hG
  exact ⟨(rm_good hF h3 hg).2 h1, (rm_good hG h3 hg).2 h2⟩
theorem ov_of {F G N : ByteArray} (h1 : rmB F N = true) (h2 : rmB G N = true) : ovB F G = true := by
  obtain ⟨a1, a2, a3, a4⟩ := rm_iff.1 h1
  obtain ⟨b1, b2, b3, b4⟩ := rm_iff.1 h2
  unfold ovB
  rw [a1, b1, wit_complete (tok_lev (ne_of_size a2)) a4 b4]
  rfl
theorem gap_rm {F G : ByteArray} (hF : filtB F = true) (hG : filtB G = true) (h : gapC (shp F) (shp G) = true) : rmB G (gapS F G) = true ∧ rmB F (gapS F G) = false := by
  obtain ⟨h1, h2, h3⟩ := gap_sound (shok_shp hG) h
  have hg := gap_good hF hG
  refine ⟨(rm_good hG h2 hg).2 h1, ?_⟩
  cases hh : rmB F (gapS F G)
  · rfl
  · exact absurd ((rm_good hF h2 hg).1 hh) h3
theorem cv_all {F G N : ByteArray} (h : cvB F G = true) (hN : rmB G N = true) : rmB F N = true := by
  unfold cvB at h
  simp only [Bool.and_eq_true, Bool.not_eq_true'] at h
  obtain ⟨hF, hG, hc⟩ := h
  obtain ⟨b1, b2, b3, b4⟩ := rm_iff.1 hN
  exact rm_iff.2 ⟨hF, b2, b3, gap_complete hc (tok_lev (ne_of_size b2)) b4⟩
theorem cv_iff {F G : ByteArray} : cvB F G = true ↔ filtB F = true ∧ filtB G = true ∧ ∀ N, rmB G N = true → rmB F N = true := by
  constructor
  · intro h
    have h' := h
    unfold cvB at h'
    simp only [Bool.and_eq_true] at h'
    exact ⟨h'.1, h'.2.1, fun N => cv_all h⟩
  · rintro ⟨hF, hG, h⟩
    unfold cvB
    rw [hF, hG]
    cases hc : gapC (shp F) (shp G)
    · rfl
    · have := gap_rm hF hG hc
      rw [h _ this.1] at this
      exact absurd this.2 (by simp)
theorem ov_iff {F G : ByteArray} : ovB F G = true ↔ ∃ N, rmB F N = true ∧ rmB G N = true :=
  ⟨fun h => ⟨_, wit_rm h⟩, fun ⟨N, h1, h2⟩ => ov_of h1 h2⟩
theorem wit_self {s : Sh} (h : shok s) : witC s s = true := by
  have ht := tks_least h
  have hn : witN s s = lst s.lv := by unfold witN; omega
  have hw : (wld s.lv && dlr s.lv) = false := by
    unfold wld dlr
    by_cases h1 : atL s.lv 0 = [43]
    · rw [h1]; rfl
    · rw [beq_eq_false_iff_ne.2 h1]; rfl
  unfold witC
  rw [hn, ht, hw]
  simp only [Bool.not_false, Bool.true_and, List.all_eq_true]
  intro i _
  unfold okA
  simp
/-- Each filter matches some topic. -/
theorem rm_some {F : ByteArray} (h : filtB F = true) : ∃ N, rmB F N = true := by
  have : ovB F F = true := by
    unfold ovB
    rw [h, wit_self (shok_shp h)]
    rfl
  exact ⟨_, (wit_rm this).1⟩
theorem cv_self (F : ByteArray) : cvB F F = filtB F := by
  rw [Bool.eq_iff_iff, cv_iff]
  exact ⟨fun h => h.1, fun h => ⟨h, h, fun _ h => h⟩⟩
theorem cv_trans {F G H : ByteArray} (h1 : cvB F G = true) (h2 : cvB G H = true) : cvB F H = true := by
  rw [cv_iff] at *
  exact ⟨h1.1, h2.2.1, fun N h => h1.2.2 N (h2.2.2 N h)⟩
theorem ov_comm (F G : ByteArray) : ovB F G = ovB G F := by
  rw [Bool.eq_iff_iff, ov_iff, ov_iff]
  exact ⟨fun ⟨N, a, b⟩ => ⟨N, b, a⟩, fun ⟨N, a, b⟩ => ⟨N, b, a⟩⟩
theorem cv_ov {F G : ByteArray} (h : cvB F G = true) : ovB F G = true := by
  rw [cv_iff] at h
  obtain ⟨N, hN⟩ := rm_some h.2.1
  exact ov_of (h.2.2 N hN) hN
theorem cv_ov_trans {F G H : ByteArray} (h : cvB F G = true) (k : ovB G H = true) : ovB F H = true := by
  obtain ⟨N, a, b⟩ := ov_iff.1 k
  exact ov_of (cv_all h a) b
theorem mt_rm {F N : ByteArray} (hN : nameB N = true) : mtB F N = rmB F N := by
  have h1 := txt_has (txt_of_name hN)
  have h2 : has 43 N.data.toList = false ∧ has 35 N.data.toList = false := by
    unfold nameB at hN
    simp only [Bool.and_eq_true, Bool.not_eq_true'] at hN
    exact hN.2
  have h3 : 0 < N.size := by
    have := List.length_pos_iff.2 (name_ne hN)
    exact this
  have h4 : free N.data.toList = true := by unfold free; rw [h2.1, h2.2, h1]; rfl
  unfold mtB rmB
  rw [hN, h4, decide_eq_true h3]
  rfl
theorem rm_of_mt {F N : ByteArray} (h : mtB F N = true) : nameB N = true ∧ rmB F N = true := by
  have hN : nameB N = true := by
    cases hn : nameB N
    · rw [mt_name hn] at h; cases h
    · rfl
  exact ⟨hN, by rw [← mt_rm hN]; exact h⟩
end Go.Proofs.YtichhppfdjkgkaaDoor
