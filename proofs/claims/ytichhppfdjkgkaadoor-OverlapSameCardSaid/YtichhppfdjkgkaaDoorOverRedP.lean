/- Which filters are left of a row of filters: plain. -/
import Derived.Test.YtichhppfdjkgkaaDoorOverLaws
namespace Go.Proofs.YtichhppfdjkgkaaDoor
set_option linter.unusedVariables false
open Go.RowKit Pl

def gt (L : List ByteArray) (i : Nat) : ByteArray := L.getD i ⟨#[]⟩
theorem gt_at {L : List ByteArray} {i : Nat} {x : ByteArray} (h : L[i]? = some x) : gt L i = x := by unfold gt; rw [List.getD_eq_getElem?_getD, h]; rfl
theorem gt_lt {L : List ByteArray} {i : Nat} (h : i < L.length) : L[i]? = some (gt L i) := by
  unfold gt; rw [List.getD_eq_getElem?_getD, List.getElem?_eq_getElem h]; rfl
/-- Is it covered? -/
def cvd (L : List ByteArray) (i : Nat) : Bool := (L.take i).any (fun f => cvB f (gt L i)) || (L.drop (i + 1)).any (fun f => cvB f (gt L i) && !cvB (gt L i) f)
def kpt (L : List ByteArray) (i : Nat) : Bool := filtB (gt L i) && !cvd L i
def red (L : List ByteArray) (k : Nat) : List ByteArray := ((List.range k).filter (kpt L)).map (gt L)
theorem red_succ (L : List ByteArray) (k : Nat) : red L (k + 1) = red L k ++ (if kpt L k then [gt L k] else []) := by
  unfold red
  rw [List.range_succ, List.filter_append, List.map_append]
  congr 1
  cases h : kpt L k <;> simp [h]
theorem red_len (L : List ByteArray) (k : Nat) : (red L k).length ≤ k := by
  unfold red
  rw [List.length_map]
  exact Nat.le_trans (List.length_filter_le _ _) (by simp)
/-- The document's test of one of them. -/
def cvt (L : List ByteArray) (i j : Nat) : Bool := !(j == i) && (cvB (gt L j) (gt L i) && (!cvB (gt L i) (gt L j) || decide (j < i)))
def cvr (L : List ByteArray) (i k : Nat) : Bool := (List.range k).any (cvt L i)
theorem cvr_succ (L : List ByteArray) (i k : Nat) : cvr L i (k + 1) = (cvr L i k || cvt L i k) := by
  unfold cvr
  rw [List.range_succ, List.any_append]; simp
theorem cvd_iff {L : List ByteArray} {i : Nat} (hi : i < L.length) : cvd L i = true ↔ ∃ j, j < L.length ∧ cvt L i j = true := by
  unfold cvd cvt
  rw [Bool.or_eq_true, List.any_eq_true, List.any_eq_true]
  constructor
  · rintro (⟨f, hf, h⟩ | ⟨f, hf, h⟩)
    · obtain ⟨j, e⟩ := List.mem_iff_getElem?.1 hf
      have hj := (List.getElem?_eq_some_iff.1 e).1
      have hji : j < i := by
        have h2 : (L.take i).length ≤ i := by rw [List.length_take]; omega
        omega
      rw [List.getElem?_take, if_pos hji] at e
      refine ⟨j, by omega, ?_⟩
      rw [gt_at e, h, beq_eq_false_iff_ne.2 (by omega : j ≠ i), decide_eq_true hji]
      simp
    · obtain ⟨j, e⟩ := List.mem_iff_getElem?.1 hf
      rw [List.getElem?_drop] at e
      have hj := (List.getElem?_eq_some_iff.1 e).1
      refine ⟨i + 1 + j, hj, ?_⟩
      rw [gt_at e, beq_eq_false_iff_ne.2 (by omega : i + 1 + j ≠ i)]
      simp only [Bool.and_eq_true, Bool.not_eq_true'] at h
      rw [h.1, h.2]; rfl
  · rintro ⟨j, hj, h⟩
    simp only [Bool.and_eq_true, Bool.or_eq_true, Bool.not_eq_true', decide_eq_true_eq, beq_eq_false_iff_ne] at h
    obtain ⟨h1, h2, h3⟩ := h
    by_cases hji : j < i
    · refine .inl ⟨gt L j, ?_, h2⟩
      exact List.mem_iff_getElem?.2 ⟨j, by rw [List.getElem?_take, if_pos hji]; exact gt_lt hj⟩
    · refine .inr ⟨gt L j, ?_, ?_⟩
      · exact List.mem_iff_getElem?.2 ⟨j - (i + 1), by rw [List.getElem?_drop, show i + 1 + (j - (i + 1)) = j from by omega]; exact gt_lt hj⟩
      · have h4 := h3.resolve_right (by omega)
        rw [h2, h4]; rfl
theorem cvr_eq {L : List ByteArray} {i : Nat} (hi : i < L.length) : cvr L i L.length = cvd L i := by
  rw [Bool.eq_iff_iff, cvd_iff hi]
  unfold cvr
  rw [List.any_eq_true]
  constructor
  · rintro ⟨j, hj, h⟩; exact ⟨j, List.mem_range.1 hj, h⟩
  · rintro ⟨j, hj, h⟩; exact ⟨j, List.mem_range.2 hj, h⟩
theorem cv_filt {F G : ByteArray} (h : cvB F G = true) : filtB F = true ∧ filtB G = true := by
  rw [cv_iff] at h; exact ⟨h.1, h.2.1⟩
/-- Who is tested to cover covers; the order has no circles. -/
theorem cvt_trans {L : List ByteArray} {i j k : Nat} (h1 : cvt L j k = true) (h2 : cvt L i j = true) : cvt L i k = true := by
  unfold cvt at *
  simp only [Bool.and_eq_true, Bool.or_eq_true, Bool.not_eq_true', decide_eq_true_eq, beq_eq_false_iff_ne] at *
  obtain ⟨a1, a2, a3⟩ := h1
  obtain ⟨b1, b2, b3⟩ := h2
  have c2 := cv_trans a2 b2
  have c3 : cvB (gt L i) (gt L k) = false ∨ k < i := by
    cases hc : cvB (gt L i) (gt L k)
    · exact .inl rfl
    · have d1 := cv_trans b2 hc
      have d2 := cv_trans hc a2
      rw [d1] at a3
      rw [d2] at b3
      have e1 := a3.resolve_left (by simp)
      have e2 := b3.resolve_left (by simp)
      exact .inr (by omega)
  refine ⟨?_, c2, c3⟩
  rintro rfl
  rcases c3 with c3 | c3
  · rw [c2] at c3; cases c3
  · omega
theorem cvt_self {L : List ByteArray} {i : Nat} : cvt L i i = false := by unfold cvt; simp
theorem count_lt {p q : Nat → Bool} : ∀ {l : List Nat}, (∀ x ∈ l, p x = true → q x = true) → (∃ x ∈ l, q x = true ∧ p x = false) → l.countP p < l.countP q
  | [], _, ⟨x, hx, _⟩ => by cases hx
  | y :: r, h, ⟨x, hx, h1, h2⟩ => by
    have hle : r.countP p ≤ r.countP q := List.countP_mono_left fun z hz hp => h z (List.mem_cons_of_mem _ hz) hp
    rcases List.mem_cons.1 hx with rfl | hx
    · rw [List.countP_cons_of_pos h1, List.countP_cons_of_neg (by rw [h2]; simp)]
      omega
    · have ih := count_lt (fun z hz hp => h z (List.mem_cons_of_mem _ hz) hp) ⟨x, hx, h1, h2⟩
      cases hp : p y
      · rw [List.countP_cons_of_neg (by rw [hp]; simp)]
        exact Nat.lt_of_lt_of_le ih (by rw [List.countP_cons]; omega)
      · rw [List.countP_cons_of_pos hp, List.countP_cons_of_pos (h y (by simp) hp)]
        omega
/-- Every filter is covered by one that is kept. -/
theorem kept_over {L : List ByteArray} : ∀ (m i : Nat), i < L.length → filtB (gt L i) = true → (List.range L.length).countP (cvt L i) ≤ m → ∃ j, j < L.length ∧ kpt L j = true ∧ cvB (gt L j) (gt L i) = true := by
  intro m
  induction m with
  | zero =>
    intro i hi hf hm
    refine ⟨i, hi, ?_, by rw [cv_self]; exact hf⟩
    unfold kpt
    rw [hf, Bool.true_and, Bool.not_eq_true']
    cases hc : cvd L i
    · rfl
    · obtain ⟨j, hj, h⟩ := (cvd_iff hi).1 hc
      have : 0 < (List.range L.length).countP (cvt L i) := List.countP_pos_iff.2 ⟨j, List.mem_range.2 hj, h⟩
      omega
  | succ m ih =>
    intro i hi hf hm
    cases hc : cvd L i
    · refine ⟨i, hi, ?_, by rw [cv_self]; exact hf⟩
      unfold kpt
      rw [hf, hc]; rfl
    · obtain ⟨j, hj, h⟩ := (cvd_iff hi).1 hc
      have hji : cvB (gt L j) (gt L i) = true := by
        unfold cvt at h
        simp only [Bool.and_eq_true] at h
        exact h.2.1
      have hlt : (List.range L.length).countP (cvt L j) < (List.range L.length).countP (cvt L i) :=
        count_lt (fun x _ hx => cvt_trans hx h) ⟨j, List.mem_range.2 hj, h, cvt_self⟩
      obtain ⟨k, hk, h1, h2⟩ := ih j hj (cv_filt hji).1 (by omega)
      exact ⟨k, hk, h1, cv_trans h2 hji⟩
theorem red_mem {L : List ByteArray} {k : Nat} {x : ByteArray} : x ∈ red L k ↔ ∃ i, i < k ∧ kpt L i = true ∧ x = gt L i := by
  unfold red
  rw [List.mem_map]
  constructor
  · rintro ⟨i, hi, rfl⟩
    obtain ⟨h1, h2⟩ := List.mem_filter.1 hi
    exact ⟨i, List.mem_range.1 h1, h2, rfl⟩
  · rintro ⟨i, h1, h2, rfl⟩
    exact ⟨i, List.mem_filter.2 ⟨List.mem_range.2 h1, h2⟩, rfl⟩
/-- The filters that are left match what all do. -/
theorem red_any (L : List ByteArray) (N : ByteArray) : (red L L.length).any (fun f => mtB f N) = L.any (fun f => mtB f N) := by
  rw [Bool.eq_iff_iff, List.any_eq_true, List.any_eq_true]
  constructor
  · rintro ⟨x, hx, h⟩
    obtain ⟨i, hi, _, rfl⟩ := red_mem.1 hx
    exact ⟨_, List.mem_of_getElem? (gt_lt hi), h⟩
  · rintro ⟨x, hx, h⟩
    obtain ⟨i, e⟩ := List.mem_iff_getElem?.1 hx
    have hi := (List.getElem?_eq_some_iff.1 e).1
    have hx2 := gt_at e
    obtain ⟨hN, hr⟩ := rm_of_mt h
    have hf : filtB (gt L i) = true := by rw [hx2]; exact (rm_iff.1 hr).1
    obtain ⟨j, hj, h1, h2⟩ := kept_over _ i hi hf (Nat.le_refl _)
    rw [hx2] at h2
    exact ⟨gt L j, red_mem.2 ⟨j, hj, h1, rfl⟩, by rw [mt_rm hN]; exact cv_all h2 hr⟩
/-- None of them covers another one. -/
theorem red_apart {L : List ByteArray} {k a b : Nat} {x y : ByteArray} (hk : k ≤ L.length) (ha : (red L k)[a]? = some x) (hb : (red L k)[b]? = some y) (hab : a ≠ b) : cvB x y = false := by
  unfold red at ha hb
  rw [List.getElem?_map] at ha hb
  obtain ⟨i, hi, rfl⟩ := Option.map_eq_some_iff.1 ha
  obtain ⟨j, hj, rfl⟩ := Option.map_eq_some_iff.1 hb
  have hnd : ((List.range k).filter (kpt L)).Nodup := List.nodup_range.filter _
  have hij : i ≠ j := fun e => hab (by
    subst e
    exact (List.getElem?_inj (List.getElem?_eq_some_iff.1 hi).1 hnd).1 (hi.trans hj.symm))
  obtain ⟨hi1, hi2⟩ := List.mem_filter.1 (List.mem_of_getElem? hi)
  obtain ⟨hj1, hj2⟩ := List.mem_filter.1 (List.mem_of_getElem? hj)
  have li := List.mem_range.1 hi1
  have lj := List.mem_range.1 hj1
  cases hc : cvB (gt L i) (gt L j)
  · rfl
  · have n1 : cvt L j i = false := by
      cases h : cvt L j i
      · rfl
      · have := (cvd_iff (by omega : j < L.length)).2 ⟨i, by omega, h⟩
        unfold kpt at hj2
        rw [this] at hj2; simp at hj2
    have n2 : cvt L i j = false := by
      cases h : cvt L i j
      · rfl
      · have := (cvd_iff (by omega : i < L.length)).2 ⟨j, by omega, h⟩
        unfold kpt at hi2
        rw [this] at hi2; simp at hi2
    unfold cvt at n1 n2
    rw [hc, beq_eq_false_iff_ne.2 hij] at n1
    rw [hc, beq_eq_false_iff_ne.2 hij.symm] at n2
    cases hc2 : cvB (gt L j) (gt L i)
    · rw [hc2] at n1; simp at n1
    · rw [hc2] at n1 n2
      simp at n1 n2
      omega
end Go.Proofs.YtichhppfdjkgkaaDoor
