/- The witness and the gap as texts. -/
import Derived.Test.YtichhppfdjkgkaaDoorOverTop
namespace Go.Proofs.YtichhppfdjkgkaaDoor
set_option linter.unusedVariables false
open Go.RowKit Pl
open Go.PlainAid (bt bt_nonneg bt_le get_bt bt_end)

theorem txt_zero {a b : List UInt8} (h : txt (a ++ 0 :: b) = true) : False := by
  have hA : (⟨a.toArray⟩ : ByteArray).size = a.length := by simp [ByteArray.size]
  have hB : (⟨((0 : UInt8) :: b).toArray⟩ : ByteArray).size = b.length + 1 := by simp [ByteArray.size]
  have hb0 : bt ⟨((0 : UInt8) :: b).toArray⟩ 0 = 0 := by
    rw [← get!_bt]
    rfl
  have hsz := size_app ⟨a.toArray⟩ ⟨((0 : UInt8) :: b).toArray⟩
  have hbt : bt ((⟨a.toArray⟩ : ByteArray) ++ ⟨((0 : UInt8) :: b).toArray⟩) (⟨a.toArray⟩ : ByteArray).size = 0 := by
    rw [← hb0]
    exact bt_right ⟨a.toArray⟩ ⟨((0 : UInt8) :: b).toArray⟩ (k := 0) (by omega)
  have h0 : (flt ((⟨a.toArray⟩ : ByteArray) ++ ⟨((0 : UInt8) :: b).toArray⟩) (a ++ 0 :: b).length 0).2 = false := by
    rw [← mk_app]; simpa [txt] using h
  have hlen : (a ++ (0 : UInt8) :: b).length = a.length + (b.length + 1) := by simp
  obtain ⟨e1, f', e2, e3⟩ := walk_part ⟨a.toArray⟩ ⟨((0 : UInt8) :: b).toArray⟩ (by rw [hbt]; omega) (by omega) (a ++ 0 :: b).length 0 a.length (by omega) (by omega) (by omega) h0
  have e4 := walk_behind ⟨a.toArray⟩ ⟨((0 : UInt8) :: b).toArray⟩ f' 0 (b.length + 1) (by omega) (by omega) (by omega) e3
  have hn : nx ⟨((0 : UInt8) :: b).toArray⟩ 0 = 0 := by
    unfold nx
    rw [hb0, if_neg (by omega), if_neg (by omega), if_neg (by omega), if_neg (by omega)]
  rw [flt_bad (by omega) (by omega) hn] at e4
  exact absurd e4 (by simp)
theorem txt_has {l : Bs} (h : txt l = true) : has 0 l = false := by
  cases hh : has 0 l
  · rfl
  · exfalso
    have hm : (0 : UInt8) ∈ l := List.elem_iff.1 hh
    obtain ⟨a, b, e⟩ := List.append_of_mem hm
    rw [e] at h
    exact txt_zero h
theorem has_jn {c : UInt8} (hc : c ≠ 47) : ∀ {L : List Bs}, (∀ x ∈ L, has c x = false) → has c (jn L) = false
  | [], _ => rfl
  | [x], h => h x (by simp)
  | x :: y :: t, h => by
    rw [jn_cons x (by simp)]
    have h1 := h x (by simp)
    have h2 := has_jn hc (L := y :: t) fun z hz => h z (by simp [hz])
    unfold has at h1 h2 ⊢
    cases he : List.elem c (x ++ 47 :: jn (y :: t))
    · rfl
    · exfalso
      have := List.elem_iff.1 he
      rcases List.mem_append.1 this with h3 | h3
      · rw [List.elem_iff.2 h3] at h1; cases h1
      · rcases List.mem_cons.1 h3 with h4 | h4
        · exact hc h4
        · rw [List.elem_iff.2 h4] at h2; cases h2
theorem fok_cut : ∀ {L : List Bs}, fok L = true → ∀ x ∈ cutL L, x = [43] ∨ (has 43 x = false ∧ has 35 x = false)
  | [], _, x, hx => by cases hx
  | y :: r, h, x, hx => by
    by_cases hy : y = [35]
    · subst hy
      have := fok_rest h
      subst this
      cases hx
    · rw [(cut_cons hy r).1] at hx
      rcases List.mem_cons.1 hx with rfl | hx
      · have := (fok_cons h).1
        unfold lvOK at this
        rw [beq_eq_false_iff_ne.2 hy] at this
        cases h1 : has 43 x <;> cases h2 : has 35 x
        · exact .inr ⟨rfl, rfl⟩
        · rw [h1, h2] at this; simp at this
        · rw [h1, h2] at this; left; simpa using this
        · rw [h1, h2] at this; simp at this
      · exact fok_cut (fok_cons h).2 x hx
theorem cut_sub {L : List Bs} {x : Bs} (h : x ∈ cutL L) : x ∈ L := by
  unfold cutL at h
  split at h
  · exact List.dropLast_subset _ h
  · exact h
def good (x : Bs) : Prop := has 43 x = false ∧ has 35 x = false ∧ has 0 x = false ∧ x.count 47 = 0
theorem shp_good {F : ByteArray} (h : filtB F = true) {x : Bs} (hx : x ∈ (shp F).lv) (hp : x ≠ [43]) : good x := by
  rw [shp_ok h] at hx
  have h1 := (fok_cut (filt_szd2 h).2 x hx).resolve_left hp
  have ht : txt F.data.toList = true := by
    have := (filt_szd2 h).1
    unfold szd at this
    simp only [Bool.and_eq_true] at this
    rw [txt_iff]
    exact this.1
  exact ⟨h1.1, h1.2, txt_has (txt_lev _ ht x (cut_sub hx)), lev_clean _ x (cut_sub hx)⟩
theorem frs_good (A B : List Bs) : good (frs A B) := by
  obtain ⟨k, e⟩ := frs_form A B
  rw [e]
  have hh : ∀ c : UInt8, c ≠ 97 → has c (List.replicate (k + 1) 97) = false := by
    intro c hc
    unfold has
    cases he : List.elem c (List.replicate (k + 1) (97 : UInt8))
    · rfl
    · exact absurd (List.eq_of_mem_replicate (List.elem_iff.1 he)) hc
  refine ⟨hh 43 (by decide), hh 35 (by decide), hh 0 (by decide), ?_⟩
  rw [List.count_eq_zero]
  intro hm
  exact absurd (List.eq_of_mem_replicate hm) (by decide)
theorem fil_good {F G : ByteArray} (hF : filtB F = true) (hG : filtB G = true) {n : Nat} {f : Nat → Bs}
    (hf : ∀ i, f i = atL (shp F).lv i ∨ f i = atL (shp G).lv i) : ∀ x ∈ fil n f (frs (shp F).lv (shp G).lv), good x := by
  have one : ∀ {H : ByteArray}, filtB H = true → ∀ i, atL (shp H).lv i ≠ [43] → good (atL (shp H).lv i) := by
    intro H hH i hi
    by_cases hl : i < (shp H).lv.length
    · exact shp_good hH (atL_mem hl) hi
    · exact absurd (atL_ge (by omega)) hi
  intro x hx
  rcases fil_mem hx with e | ⟨i, _, e, hne⟩
  · rw [e]; exact frs_good _ _
  · rcases hf i with h | h
    · rw [e, h]; rw [h] at hne; exact one hF i hne
    · rw [e, h]; rw [h] at hne; exact one hG i hne
theorem good_str {L : List Bs} (hL : tok L) (hg : ∀ x ∈ L, good x) : lev (jn L) = L ∧ free (jn L) = true ∧ jn L ≠ [] := by
  have hl := lev_jn hL.1 fun x hx => (hg x hx).2.2.2
  refine ⟨hl, ?_, ?_⟩
  · unfold free
    rw [has_jn (by decide) fun x hx => (hg x hx).1, has_jn (by decide) fun x hx => (hg x hx).2.1, has_jn (by decide) fun x hx => (hg x hx).2.2.1]
    rfl
  · intro e
    rw [e] at hl
    exact hL.2 hl.symm
end Go.Proofs.YtichhppfdjkgkaaDoor
