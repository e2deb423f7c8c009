/- Plain facts: a filter's levels, one by one; no program in sight. -/
import Derived.Test.YtdjiioidkgppjaaDoorTopicLaws
namespace Go.Proofs.YtdjiioidkgppjaaDoor.Pl
open Go

theorem fok_end {L : List Bs} {k : Nat} (h : L.length ≤ k) : fok (L.drop k) = true := by
  rw [List.drop_eq_nil_of_le h]; rfl
theorem fok_at {L : List Bs} {k : Nat} {x : Bs} (h : L[k]? = some x) : fok (L.drop k) = (lvOK x (decide (k + 1 = L.length)) && fok (L.drop (k + 1))) := by
  obtain ⟨hk, hx⟩ := List.getElem?_eq_some_iff.1 h
  rw [List.drop_eq_getElem_cons hk, hx]
  show (lvOK x (L.drop (k + 1)).isEmpty && _) = _
  congr 2
  rw [Bool.eq_iff_iff, List.isEmpty_iff, List.drop_eq_nil_iff, decide_eq_true_iff]
  omega
theorem has_one {c : UInt8} {x : Bs} (h : has c x = true) (h1 : x.length ≤ 1) : x = [c] := by
  match x, h, h1 with
  | [], h, _ => cases h
  | [b], h, _ =>
    unfold has at h
    simp at h
    rw [h]
  | _ :: _ :: _, _, h1 => simp at h1
theorem has_long {c : UInt8} {x : Bs} (h1 : ¬ x.length ≤ 1) : (x == [c]) = false := by
  rw [beq_eq_false_iff_ne]
  rintro rfl
  simp at h1
theorem lv_a {x : Bs} {n k : Nat} (h : has 35 x = true) (hk : k + 1 < n) : lvOK x (decide (k + 1 = n)) = false := by
  unfold lvOK
  rw [h, decide_eq_false (by omega)]
  simp
theorem lv_b {x : Bs} {l : Bool} (h : has 35 x = true) (hl : ¬ x.length ≤ 1) : lvOK x l = false := by
  unfold lvOK
  rw [h, has_long (c := 35) hl]
  simp
theorem lv_c {x : Bs} {n k : Nat} (h : has 35 x = true) (hl : x.length ≤ 1) (hk : k + 1 = n) : lvOK x (decide (k + 1 = n)) = true := by
  obtain rfl := has_one h hl
  rw [decide_eq_true hk]
  decide
theorem lv_d {x : Bs} {l : Bool} (h : has 43 x = true) (hl : ¬ x.length ≤ 1) : lvOK x l = false := by
  unfold lvOK
  rw [h, has_long (c := 43) hl]
  simp
theorem lv_e {x : Bs} {l : Bool} (h : has 43 x = true) (hl : x.length ≤ 1) : lvOK x l = true := by
  obtain rfl := has_one h hl
  cases l <;> decide
theorem lv_f {x : Bs} {l : Bool} (h : has 43 x = false) (h2 : has 35 x = false) : lvOK x l = true := lv_pure ⟨h, h2⟩ l
theorem filt_szd {s : ByteArray} (h : szd s = false) : filtC s = 143 := by unfold filtC filtB; rw [h]; rfl
theorem filt_lev {s : ByteArray} (h : szd s = true) : filtC s = if fok (lev s.data.toList) then 0 else 143 := by unfold filtC filtB; rw [h]; rfl
theorem szd_size {s : ByteArray} (h : szd s = true) : 0 < s.size ∧ s.size ≤ 256 ∧ (lev s.data.toList).length ≤ 32 := by
  unfold szd at h
  simp only [Bool.and_eq_true, decide_eq_true_eq] at h
  exact ⟨h.2.1, h.2.2.1, h.2.2.2⟩
theorem lev_pos (l : Bs) : 0 < (lev l).length := by rw [lev_len]; omega
/-- Does a level match another one's? -/
def one (a b : Bs) : Bool := a == [43] || a == b
theorem lev_size (l : Bs) : ∀ x ∈ lev l, x.length ≤ l.length := by
  induction l with
  | nil => intro x hx; simp [lev] at hx; subst hx; exact Nat.le_refl _
  | cons c r ih =>
    by_cases h : c = 47
    · subst h
      rw [lev_slash]
      intro x hx
      rcases List.mem_cons.1 hx with rfl | hx
      · exact Nat.zero_le _
      · exact Nat.le_succ_of_le (ih x hx)
    · rw [lev_other _ h]
      intro x hx
      rcases prep_mem hx with ⟨z, hz, rfl⟩ | hx | ⟨h0, _⟩
      · have := ih z hz
        simp; omega
      · exact Nat.le_succ_of_le (ih x hx)
      · exact absurd h0 (lev_ne r)
theorem lev_get_size {l : Bs} {k : Nat} {x : Bs} (h : (lev l)[k]? = some x) : x.length ≤ l.length := lev_size l x (List.mem_of_getElem? h)
theorem lv_g {x : Bs} {l : Bool} (h : has 35 x = true) (hl : (x == [35]) = false) : lvOK x l = false := by
  unfold lvOK; rw [h, hl]; simp
theorem lv_h {x : Bs} {l : Bool} (h : has 43 x = true) (hl : (x == [43]) = false) : lvOK x l = false := by
  unfold lvOK; rw [h, hl]; simp
end Go.Proofs.YtdjiioidkgppjaaDoor.Pl
