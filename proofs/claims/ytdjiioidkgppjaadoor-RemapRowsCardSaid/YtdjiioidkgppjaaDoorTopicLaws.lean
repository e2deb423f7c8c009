/- Plain laws of topics: what matches what; levels put together; no program in sight. -/
import Derived.Test.YtdjiioidkgppjaaDoorTopicPlain
import Derived.Test.YtdjiioidkgppjaaDoorTextApp
namespace Go.Proofs.YtdjiioidkgppjaaDoor.Pl
open Go

/-! ### Joining -/
def jn : List Bs → Bs
  | [] => []
  | [x] => x
  | x :: r => x ++ 47 :: jn r
theorem jn_cons (x : Bs) {r : List Bs} (h : r ≠ []) : jn (x :: r) = x ++ 47 :: jn r := by
  cases r with
  | nil => exact absurd rfl h
  | cons y t => rfl
theorem join_jn (L : List Bs) : Lib.join L [47] = jn L := by
  induction L with
  | nil => rfl
  | cons x r ih =>
    cases r with
    | nil => exact Lib.join_one _ _
    | cons y t =>
      rw [jn_cons x (by simp), ← ih, Lib.join_cons, Lib.join_cons]
      simp [Lib.joinTail]
theorem jn_snoc {L : List Bs} (h : L ≠ []) (x : Bs) : jn (L ++ [x]) = jn L ++ 47 :: x := by
  induction L with
  | nil => exact absurd rfl h
  | cons y r ih =>
    cases r with
    | nil => rfl
    | cons z t =>
      rw [List.cons_append, jn_cons y (by simp), ih (by simp), jn_cons y (by simp)]
      simp
theorem jn_prep (c : UInt8) {L : List Bs} (h : L ≠ []) : jn (prep [c] L) = c :: jn L := by
  cases L with
  | nil => exact absurd rfl h
  | cons a t =>
    cases t with
    | nil => rfl
    | cons b u => rfl
theorem jn_lev (l : Bs) : jn (lev l) = l := by
  induction l with
  | nil => rfl
  | cons c r ih =>
    by_cases h : c = 47
    · subst h
      rw [lev_slash, jn_cons _ (lev_ne r), ih]; rfl
    · rw [lev_other _ h, jn_prep _ (lev_ne r), ih]
theorem lev_app (a b : Bs) : lev (a ++ 47 :: b) = lev a ++ lev b := by
  induction a with
  | nil => rw [List.nil_append, lev_slash]; rfl
  | cons c r ih =>
    by_cases h : c = 47
    · subst h
      rw [List.cons_append, lev_slash, lev_slash, ih]; rfl
    · rw [List.cons_append, lev_other _ h, lev_other _ h, ih]
      cases hL : lev r with
      | nil => exact absurd hL (lev_ne r)
      | cons x t => rfl
/-- No slash in any piece. -/
def clean (L : List Bs) : Prop := ∀ x ∈ L, x.count 47 = 0
theorem lev_jn {L : List Bs} (h : L ≠ []) (hc : clean L) : lev (jn L) = L := by
  induction L with
  | nil => exact absurd rfl h
  | cons x r ih =>
    have hx := lev_plain (hc x (by simp))
    cases r with
    | nil => exact hx
    | cons y t =>
      rw [jn_cons x (by simp), lev_app, hx, ih (by simp) (fun z hz => hc z (by simp [hz]))]
      rfl
theorem prep_mem {x : Bs} {L : List Bs} {y : Bs} (h : y ∈ prep x L) : (∃ z ∈ L, y = x ++ z) ∨ y ∈ L ∨ (L = [] ∧ y = x) := by
  cases L with
  | nil => right; right; simpa [prep] using h
  | cons a t =>
    simp only [prep, List.mem_cons] at h
    rcases h with h | h
    · exact .inl ⟨a, by simp, h⟩
    · exact .inr (.inl (by simp [h]))
theorem lev_clean (l : Bs) : clean (lev l) := by
  induction l with
  | nil => intro x hx; simp [lev] at hx; subst hx; rfl
  | cons c r ih =>
    by_cases h : c = 47
    · subst h
      rw [lev_slash]
      intro x hx
      rcases List.mem_cons.1 hx with rfl | hx
      · rfl
      · exact ih x hx
    · rw [lev_other _ h]
      intro x hx
      rcases prep_mem hx with ⟨z, hz, rfl⟩ | hx | ⟨h0, _⟩
      · rw [List.count_append, ih z hz]
        simp [h]
      · exact ih x hx
      · exact absurd h0 (lev_ne r)
theorem lev_inj {a b : Bs} (h : lev a = lev b) : a = b := by rw [← jn_lev a, ← jn_lev b, h]
/-- What holds of every byte of a text holds of every byte of its levels. -/
theorem lev_has {c : UInt8} {l : Bs} (h : has c l = false) : ∀ x ∈ lev l, has c x = false := by
  induction l with
  | nil => intro x hx; simp [lev] at hx; subst hx; rfl
  | cons b r ih =>
    have h1 : (c == b) = false ∧ has c r = false := by
      unfold has at h ⊢
      rw [List.elem_cons] at h
      cases hb : c == b
      · rw [hb] at h; exact ⟨rfl, h⟩
      · rw [hb] at h; cases h
    by_cases hs : b = 47
    · subst hs
      rw [lev_slash]
      intro x hx
      rcases List.mem_cons.1 hx with rfl | hx
      · rfl
      · exact ih h1.2 x hx
    · rw [lev_other _ hs]
      intro x hx
      rcases prep_mem hx with ⟨z, hz, rfl⟩ | hx | ⟨h0, _⟩
      · have := ih h1.2 z hz
        unfold has at this ⊢
        show List.elem c (b :: z) = false
        rw [List.elem_cons, h1.1]; exact this
      · exact ih h1.2 x hx
      · exact absurd h0 (lev_ne r)
theorem txt_lev : ∀ l : Bs, txt l = true → ∀ x ∈ lev l, txt x = true := by
  intro l
  suffices H : ∀ L : List Bs, L ≠ [] → txt (jn L) = true → ∀ x ∈ L, txt x = true by
    intro h; exact H _ (lev_ne l) (by rw [jn_lev]; exact h)
  intro L
  induction L with
  | nil => intro h; exact absurd rfl h
  | cons y r ih =>
    intro _ h x hx
    cases r with
    | nil => rcases List.mem_cons.1 hx with rfl | hx; exact h; simp at hx
    | cons z t =>
      rw [jn_cons y (by simp)] at h
      have hp := txt_part (by decide) h
      rcases List.mem_cons.1 hx with rfl | hx
      · exact hp.1
      · exact ih (by simp) hp.2 x hx
theorem txt_jn {L : List Bs} (h : ∀ x ∈ L, txt x = true) : txt (jn L) = true := by
  induction L with
  | nil => exact txt_nil
  | cons x r ih =>
    cases r with
    | nil => exact h x (by simp)
    | cons y t =>
      rw [jn_cons x (by simp)]
      exact txt_app (h x (by simp)) (txt_app (a := [47]) (by decide) (ih fun z hz => h z (by simp [hz])))

/-! ### Matching -/
/-- The program's own way: the last level first, then all that are left, one by one. -/
def eqB : List Bs → List Bs → Bool
  | a :: r, b :: t => (a == [43] || a == b) && eqB r t
  | _, _ => true
def allB (f : List Bs) : Bool := f.getLast? == some [35]
def cutL (f : List Bs) : List Bs := if allB f then f.dropLast else f
def pmt (f n : List Bs) : Bool := !(decide (n.length < (cutL f).length)) && ((allB f || !decide ((cutL f).length < n.length)) && eqB (cutL f) (n.take (cutL f).length))

theorem has_self (c : UInt8) : has c [c] = true := by simp [has]
theorem fok_cons {x : Bs} {r : List Bs} (h : fok (x :: r) = true) : lvOK x r.isEmpty = true ∧ fok r = true := by
  simpa [fok] using h
theorem lv_rest {r : Bool} (h : lvOK [35] r = true) : r = true := by
  cases r
  · revert h; decide
  · rfl
theorem allB_cons (x : Bs) {r : List Bs} (h : r ≠ []) : allB (x :: r) = allB r := by
  unfold allB
  cases r with
  | nil => exact absurd rfl h
  | cons y t => rw [List.getLast?_cons_cons]
theorem cutL_cons (x : Bs) {r : List Bs} (h : r ≠ []) : cutL (x :: r) = x :: cutL r := by
  unfold cutL
  rw [allB_cons x h]
  cases r with
  | nil => exact absurd rfl h
  | cons y t => split <;> rfl
theorem pmt_mtL : ∀ f : List Bs, f ≠ [] → fok f = true → ∀ n : List Bs, pmt f n = mtL f n := by
  intro f
  induction f with
  | nil => intro h; exact absurd rfl h
  | cons x r ih =>
    intro _ hf n
    obtain ⟨h1, h2⟩ := fok_cons hf
    by_cases hr : r = []
    · subst hr
      by_cases hx : x = [35]
      · subst hx
        unfold pmt mtL
        simp [allB, cutL, eqB]
      · have ha : allB [x] = false := by
          unfold allB
          simpa using hx
        have hc : cutL [x] = [x] := by unfold cutL; rw [ha]; rfl
        unfold pmt mtL
        rw [hc, ha, if_neg hx]
        cases n with
        | nil => simp
        | cons y n' =>
          cases n' with
          | nil => simp [eqB, mtL]
          | cons z n'' => simp [mtL]
    · have hx : x ≠ [35] := by
        rintro rfl
        have := lv_rest h1
        exact hr (List.isEmpty_iff.1 this)
      have e := ih hr h2
      unfold pmt mtL
      rw [cutL_cons x hr, allB_cons x hr, if_neg hx]
      cases n with
      | nil => simp
      | cons y n' =>
        have e' := e n'
        unfold pmt at e'
        simp only [← e', List.length_cons, List.take_succ_cons, eqB, Nat.add_lt_add_iff_right]
        cases (x == [43] || x == y) <;> simp
theorem mtL_app {f n m : List Bs} (h : mtL f n = true) (ha : allB f = true) : mtL f (n ++ m) = true := by
  induction f generalizing n with
  | nil => simp [allB] at ha
  | cons x r ih =>
    unfold mtL at h ⊢
    by_cases hx : x = [35]
    · rw [if_pos hx]
    · rw [if_neg hx] at h ⊢
      have hr : r ≠ [] := by
        rintro rfl
        unfold allB at ha
        exact hx (by simpa using ha)
      rw [allB_cons x hr] at ha
      cases n with
      | nil => cases h
      | cons y n' =>
        simp only [List.cons_append, Bool.and_eq_true] at h ⊢
        exact ⟨h.1, ih h.2 ha⟩
theorem mtL_open {f n m : List Bs} (h : mtL f n = true) : mtL (f ++ [[35]]) (n ++ m) = true := by
  induction f generalizing n with
  | nil => unfold mtL; simp
  | cons x r ih =>
    rw [List.cons_append]
    unfold mtL at h ⊢
    by_cases hx : x = [35]
    · rw [if_pos hx]
    · rw [if_neg hx] at h ⊢
      cases n with
      | nil => cases h
      | cons y n' =>
        simp only [List.cons_append, Bool.and_eq_true] at h ⊢
        exact ⟨h.1, ih h.2⟩
theorem mtL_longer {f n m : List Bs} (h : mtL f n = true) (hf : fok f = true) (ha : allB f = false) (hm : m ≠ []) : mtL f (n ++ m) = false := by
  induction f generalizing n with
  | nil =>
    cases n with
    | nil =>
      cases m with
      | nil => exact absurd rfl hm
      | cons y t => rfl
    | cons y t => unfold mtL at h; cases h
  | cons x r ih =>
    obtain ⟨h1, h2⟩ := fok_cons hf
    have hx : x ≠ [35] := by
      rintro rfl
      have hr := List.isEmpty_iff.1 (lv_rest h1)
      subst hr
      revert ha; decide
    unfold mtL at h ⊢
    rw [if_neg hx] at h ⊢
    cases n with
    | nil => cases h
    | cons y n' =>
      simp only [List.cons_append, Bool.and_eq_true] at h ⊢
      have ha' : allB r = false := by
        by_cases hr : r = []
        · subst hr; rfl
        · rw [allB_cons x hr] at ha; exact ha
      rw [ih h.2 h2 ha', Bool.and_false]

/-! ### Names -/
/-- No level of it has a plus or a hash. -/
def pure (L : List Bs) : Prop := ∀ x ∈ L, has 43 x = false ∧ has 35 x = false
theorem name_pure {N : ByteArray} (h : nameB N = true) : pure (lev N.data.toList) := by
  unfold nameB at h
  simp only [Bool.and_eq_true, Bool.not_eq_true'] at h
  exact fun x hx => ⟨lev_has h.2.1 x hx, lev_has h.2.2 x hx⟩
theorem lv_pure {x : Bs} (h : has 43 x = false ∧ has 35 x = false) (b : Bool) : lvOK x b = true := by
  unfold lvOK; rw [h.1, h.2]; rfl
theorem fok_pure {L : List Bs} (h : pure L) : fok L = true := by
  induction L with
  | nil => rfl
  | cons x r ih =>
    unfold fok
    rw [lv_pure (h x (by simp)), ih fun y hy => h y (by simp [hy])]
    rfl
theorem name_filter {N : ByteArray} (h : nameB N = true) : filtB N = true := by
  have hp := fok_pure (name_pure h)
  unfold nameB at h
  unfold filtB
  rw [hp]
  simp only [Bool.and_eq_true] at h ⊢
  exact ⟨h.1, trivial⟩
theorem pure_ne {x : Bs} (h : has 43 x = false ∧ has 35 x = false) : x ≠ [43] ∧ x ≠ [35] :=
  ⟨by rintro rfl; exact absurd h.1 (by decide), by rintro rfl; exact absurd h.2 (by decide)⟩
theorem mtL_pure {L : List Bs} (h : pure L) (n : List Bs) : mtL L n = decide (L = n) := by
  induction L generalizing n with
  | nil => cases n <;> simp [mtL]
  | cons x r ih =>
    have hx := pure_ne (h x (by simp))
    unfold mtL
    rw [if_neg hx.2]
    cases n with
    | nil => simp
    | cons y t =>
      have e : (x == [43]) = false := beq_eq_false_iff_ne.2 hx.1
      simp only [e, Bool.false_or, ih fun z hz => h z (by simp [hz]), List.cons.injEq]
      rw [Bool.eq_iff_iff]
      simp
theorem dol_self {N : ByteArray} (h : nameB N = true) (M : Bs) : dol N.data.toList M = false := by
  unfold nameB has at h
  simp only [Bool.and_eq_true, Bool.not_eq_true'] at h
  unfold dol
  cases hN : N.data.toList with
  | nil => simp
  | cons c r =>
    rw [hN, List.elem_cons, List.elem_cons] at h
    have h1 : c ≠ 43 := by rintro rfl; exact absurd h.2.1 (by simp)
    have h2 : c ≠ 35 := by rintro rfl; exact absurd h.2.2 (by simp)
    simp [h1, h2]
theorem name_ne {N : ByteArray} (h : nameB N = true) : N.data.toList ≠ [] := by
  unfold nameB szd at h
  simp only [Bool.and_eq_true, decide_eq_true_eq] at h
  have hs := h.1.2.1
  intro e
  have : N.data.toList.length = N.size := rfl
  rw [e] at this
  simp at this
  omega
theorem filt_ne {N : ByteArray} (h : filtB N = true) : N.data.toList ≠ [] := by
  unfold filtB szd at h
  simp only [Bool.and_eq_true, decide_eq_true_eq] at h
  have hs := h.1.2.1
  intro e
  have : N.data.toList.length = N.size := rfl
  rw [e] at this
  simp at this
  omega
/-- A name matches itself, as a filter, and no other name. -/
theorem own_match {N O : ByteArray} (h : nameB N = true) : mtB N O = decide (N = O) := by
  unfold mtB
  rw [name_filter h, dol_self h, mtL_pure (name_pure h)]
  simp only [Bool.true_and, Bool.not_false]
  by_cases e : N = O
  · subst e; simp [h]
  · have : ¬ lev N.data.toList = lev O.data.toList := fun hl => e (by
      have := lev_inj hl
      apply ByteArray.ext
      apply Array.toList_inj.1 this)
    simp [this, e]
theorem other_match {F N : ByteArray} (h : nameB N = false) : mtB F N = false := by
  unfold mtB; rw [h]; simp

/-! ### With a level left open -/
theorem head_jn (x : Bs) (r : List Bs) : (jn (x :: r)).head? = if x = [] then (if r = [] then none else some 47) else x.head? := by
  cases x with
  | nil =>
    cases r with
    | nil => rfl
    | cons y t => rfl
  | cons c u =>
    cases r with
    | nil => rfl
    | cons y t => rfl
theorem pure_set {L : List Bs} (h : pure L) (k : Nat) : fok (L.set k [43]) = true := by
  induction L generalizing k with
  | nil => rfl
  | cons x r ih =>
    have hr : pure r := fun y hy => h y (by simp [hy])
    cases k with
    | zero =>
      rw [List.set_cons_zero]
      unfold fok
      rw [fok_pure hr]
      have : lvOK [43] r.isEmpty = true := by unfold lvOK; cases r.isEmpty <;> decide
      rw [this]; rfl
    | succ k =>
      rw [List.set_cons_succ]
      unfold fok
      rw [lv_pure (h x (by simp)), ih hr]; rfl
theorem pure_take {L : List Bs} (h : pure L) (k : Nat) : fok (L.take k ++ [[35]]) = true := by
  induction L generalizing k with
  | nil => simp; decide
  | cons x r ih =>
    cases k with
    | zero => simp; decide
    | succ k =>
      rw [List.take_succ_cons, List.cons_append]
      unfold fok
      rw [lv_pure (h x (by simp)), ih (fun y hy => h y (by simp [hy]))]; rfl
theorem mtL_cons {x : Bs} (hx : x ≠ [35]) (f : List Bs) (y : Bs) (n : List Bs) : mtL (x :: f) (y :: n) = ((x == [43] || x == y) && mtL f n) := by
  conv => lhs; unfold mtL
  rw [if_neg hx]
theorem mtL_set {L : List Bs} (h : pure L) (k : Nat) : mtL (L.set k [43]) L = true := by
  induction L generalizing k with
  | nil => rfl
  | cons x r ih =>
    have hr : pure r := fun y hy => h y (by simp [hy])
    have hx := pure_ne (h x (by simp))
    cases k with
    | zero =>
      rw [List.set_cons_zero]
      rw [mtL_cons (by decide), mtL_pure hr]
      simp
    | succ k =>
      rw [List.set_cons_succ, mtL_cons hx.2, ih hr]
      simp
theorem mtL_take {L : List Bs} (h : pure L) (k : Nat) : mtL (L.take k ++ [[35]]) L = true := by
  induction L generalizing k with
  | nil => simp [mtL]
  | cons x r ih =>
    have hr : pure r := fun y hy => h y (by simp [hy])
    have hx := pure_ne (h x (by simp))
    cases k with
    | zero => simp [mtL]
    | succ k =>
      rw [List.take_succ_cons, List.cons_append, mtL_cons hx.2, ih hr]
      simp
/-- How long it may be, apart from its size. -/
theorem szd_iff (l : Bs) (ht : txt l = true) (h0 : l ≠ []) (h32 : (lev l).length ≤ 32) : szd ⟨l.toArray⟩ = decide (l.length ≤ 256) := by
  have e : (⟨l.toArray⟩ : ByteArray).size = l.length := by simp [ByteArray.size]
  have hl : 0 < l.length := List.length_pos_iff.2 h0
  unfold szd
  unfold txt at ht
  rw [e, ht]
  have e2 : (⟨l.toArray⟩ : ByteArray).data.toList = l := rfl
  rw [e2]
  simp [hl, h32]
theorem txt_of_name {N : ByteArray} (h : nameB N = true) : txt N.data.toList = true := by
  unfold nameB szd at h
  simp only [Bool.and_eq_true] at h
  rw [txt_iff]
  exact h.1.1
theorem lev32_of_name {N : ByteArray} (h : nameB N = true) : (lev N.data.toList).length ≤ 32 := by
  unfold nameB szd at h
  simp only [Bool.and_eq_true, decide_eq_true_eq] at h
  exact h.1.2.2.2
theorem jn_ne {L : List Bs} (h : ∃ x ∈ L, x ≠ []) : jn L ≠ [] := by
  induction L with
  | nil => obtain ⟨x, hx, _⟩ := h; simp at hx
  | cons x r ih =>
    obtain ⟨y, hy, hne⟩ := h
    cases r with
    | nil =>
      rcases List.mem_cons.1 hy with rfl | hy
      · exact hne
      · simp at hy
    | cons z t => rw [jn_cons x (by simp)]; simp
theorem dol_jn {x : Bs} {r : List Bs} {N : Bs} (hx : has 43 x = false ∧ has 35 x = false) : dol (jn (x :: r)) N = false := by
  unfold dol
  rw [head_jn]
  cases x with
  | nil => cases r <;> simp
  | cons c u =>
    have h1 : c ≠ 43 := by rintro rfl; exact absurd hx.1 (by simp [has])
    have h2 : c ≠ 35 := by rintro rfl; exact absurd hx.2 (by simp [has])
    simp [h1, h2]
/-- With the k-th level left open. -/
theorem open_match {N : ByteArray} (h : nameB N = true) {k : Nat} (hk : k < (lev N.data.toList).length) :
    mtB ⟨(jn ((lev N.data.toList).set k [43])).toArray⟩ N = (decide ((jn ((lev N.data.toList).set k [43])).length ≤ 256) && (decide (0 < k) || !(N.data.toList.head? == some 36))) := by
  have hp := name_pure h
  have ht := txt_lev _ (txt_of_name h)
  have hc := lev_clean N.data.toList
  have h32 := lev32_of_name h
  obtain ⟨L, hL⟩ : ∃ L, lev N.data.toList = L := ⟨_, rfl⟩
  rw [hL] at hp ht hc h32 hk ⊢
  have hset : clean (L.set k [43]) := fun x hx => by
    rcases List.mem_or_eq_of_mem_set hx with hx | rfl
    · exact hc x hx
    · rfl
  have hmem : [43] ∈ L.set k [43] := List.mem_set hk _
  have hne : L.set k [43] ≠ [] := List.ne_nil_of_mem hmem
  have hlev := lev_jn hne hset
  have htx : txt (jn (L.set k [43])) = true := txt_jn fun x hx => by
    rcases List.mem_or_eq_of_mem_set hx with hx | rfl
    · exact ht x hx
    · rfl
  have hz : szd ⟨(jn (L.set k [43])).toArray⟩ = decide ((jn (L.set k [43])).length ≤ 256) :=
    szd_iff _ htx (jn_ne ⟨_, hmem, by decide⟩) (by rw [hlev, List.length_set]; exact h32)
  have hf : filtB ⟨(jn (L.set k [43])).toArray⟩ = decide ((jn (L.set k [43])).length ≤ 256) := by
    unfold filtB
    rw [hz]
    show (_ && fok (lev (jn (L.set k [43])))) = _
    rw [hlev, pure_set hp, Bool.and_true]
  unfold mtB
  rw [hf, h, hL]
  show (_ && (true && (!dol (jn (L.set k [43])) N.data.toList && mtL (lev (jn (L.set k [43]))) L))) = _
  rw [hlev, mtL_set hp, Bool.true_and, Bool.and_true]
  congr 1
  cases L with
  | nil => simp at hk
  | cons x r =>
    cases k with
    | zero =>
      rw [List.set_cons_zero]
      unfold dol
      rw [head_jn]
      simp
    | succ k =>
      rw [List.set_cons_succ, dol_jn (hp x (by simp))]
      simp
/-- With all levels from the k-th on left open. -/
theorem rest_match {N : ByteArray} (h : nameB N = true) {k : Nat} (hk : k < (lev N.data.toList).length) :
    mtB ⟨(jn ((lev N.data.toList).take k ++ [[35]])).toArray⟩ N = (decide ((jn ((lev N.data.toList).take k ++ [[35]])).length ≤ 256) && (decide (0 < k) || !(N.data.toList.head? == some 36))) := by
  have hp := name_pure h
  have ht := txt_lev _ (txt_of_name h)
  have hc := lev_clean N.data.toList
  have h32 := lev32_of_name h
  obtain ⟨L, hL⟩ : ∃ L, lev N.data.toList = L := ⟨_, rfl⟩
  rw [hL] at hp ht hc h32 hk ⊢
  have hset : clean (L.take k ++ [[35]]) := fun x hx => by
    rcases List.mem_append.1 hx with hx | hx
    · exact hc x (List.mem_of_mem_take hx)
    · rw [List.mem_singleton.1 hx]; rfl
  have hmem : [35] ∈ L.take k ++ [[35]] := by simp
  have hne : L.take k ++ [[35]] ≠ [] := List.ne_nil_of_mem hmem
  have hlev := lev_jn hne hset
  have htx : txt (jn (L.take k ++ [[35]])) = true := txt_jn fun x hx => by
    rcases List.mem_append.1 hx with hx | hx
    · exact ht x (List.mem_of_mem_take hx)
    · rw [List.mem_singleton.1 hx]; rfl
  have hz : szd ⟨(jn (L.take k ++ [[35]])).toArray⟩ = decide ((jn (L.take k ++ [[35]])).length ≤ 256) :=
    szd_iff _ htx (jn_ne ⟨_, hmem, by decide⟩) (by rw [hlev]; simp; omega)
  have hf : filtB ⟨(jn (L.take k ++ [[35]])).toArray⟩ = decide ((jn (L.take k ++ [[35]])).length ≤ 256) := by
    unfold filtB
    rw [hz]
    show (_ && fok (lev (jn (L.take k ++ [[35]])))) = _
    rw [hlev, pure_take hp, Bool.and_true]
  unfold mtB
  rw [hf, h, hL]
  show (_ && (true && (!dol (jn (L.take k ++ [[35]])) N.data.toList && mtL (lev (jn (L.take k ++ [[35]]))) L))) = _
  rw [hlev, mtL_take hp, Bool.true_and, Bool.and_true]
  congr 1
  cases L with
  | nil => simp at hk
  | cons x r =>
    cases k with
    | zero =>
      unfold dol
      simp [jn]
    | succ k =>
      rw [List.take_succ_cons, List.cons_append, dol_jn (hp x (by simp))]
      simp
end Go.Proofs.YtdjiioidkgppjaaDoor.Pl
