/- Plain facts: a character hangs on its own bytes alone; cuts are texts; texts joined; no program in sight. -/
import Derived.Test.YtdjiioidkgppjaaDoorTextPlain
namespace Go.Proofs.YtdjiioidkgppjaaDoor.Pl
open Go.PlainAid (bt bt_nonneg bt_le get_bt bt_end)

theorem tl_same {s s' : ByteArray} {a a' : Nat} (h : a < s.size) (h' : a' < s'.size) (hb : bt s' a' = bt s a) (lo hi : Int) : tl s' a' lo hi = tl s a lo hi := by
  unfold tl
  rw [hb]
  simp [h, h']
/-- A character hangs on its own bytes alone. -/
theorem nx_local {s s' : ByteArray} {a a' : Nat} (h : nx s a ≠ 0) (hb : ∀ k, k < nx s a → a' + k < s'.size ∧ bt s' (a' + k) = bt s (a + k)) : nx s' a' = nx s a := by
  have hle := nx_le s a h
  have h0 := (hb 0 (by omega))
  rw [Nat.add_zero, Nat.add_zero] at h0
  have hle' := hle
  unfold nx at h hle' hb
  by_cases c1 : 1 ≤ bt s a ∧ bt s a ≤ 127
  · unfold nx
    rw [h0.2, if_pos c1, if_pos c1]
  · rw [if_neg c1] at h hle' hb
    by_cases c2 : 194 ≤ bt s a ∧ bt s a ≤ 223 ∧ tl s (a + 1) 128 191 = true
    · rw [if_pos c2] at h hle' hb
      have h1 := hb 1 (by omega)
      have e1 := fun lo hi => tl_same (show a + 1 < s.size by omega) h1.1 h1.2 lo hi
      unfold nx
      rw [h0.2, if_neg c1, if_neg c1, e1, if_pos c2, if_pos c2]
    · rw [if_neg c2] at h hle' hb
      by_cases c3 : 224 ≤ bt s a ∧ bt s a ≤ 239 ∧ tl s (a + 1) 128 191 = true ∧ tl s (a + 2) 128 191 = true
      · rw [if_pos c3] at h hle' hb
        by_cases d3 : (bt s a = 224 ∧ tl s (a + 1) 160 191 = false) ∨ (bt s a = 237 ∧ tl s (a + 1) 128 159 = false)
        · rw [if_pos d3] at h; exact absurd rfl h
        · rw [if_neg d3] at hle' hb
          have h1 := hb 1 (by omega)
          have h2 := hb 2 (by omega)
          have e1 := fun lo hi => tl_same (show a + 1 < s.size by omega) h1.1 h1.2 lo hi
          have e2 := fun lo hi => tl_same (show a + 2 < s.size by omega) h2.1 h2.2 lo hi
          unfold nx
          rw [h0.2, e1, e1, e1, e2, if_neg c1, if_neg c1, if_neg c2, if_neg c2, if_pos c3, if_pos c3]
      · rw [if_neg c3] at h hle' hb
        by_cases c4 : 240 ≤ bt s a ∧ bt s a ≤ 244 ∧ tl s (a + 1) 128 191 = true ∧ tl s (a + 2) 128 191 = true ∧ tl s (a + 3) 128 191 = true
        · rw [if_pos c4] at h hle' hb
          by_cases d4 : (bt s a = 240 ∧ tl s (a + 1) 144 191 = false) ∨ (bt s a = 244 ∧ tl s (a + 1) 128 143 = false)
          · rw [if_pos d4] at h; exact absurd rfl h
          · rw [if_neg d4] at hle' hb
            have h1 := hb 1 (by omega)
            have h2 := hb 2 (by omega)
            have h3 := hb 3 (by omega)
            have e1 := fun lo hi => tl_same (show a + 1 < s.size by omega) h1.1 h1.2 lo hi
            have e2 := fun lo hi => tl_same (show a + 2 < s.size by omega) h2.1 h2.2 lo hi
            have e3 := fun lo hi => tl_same (show a + 3 < s.size by omega) h3.1 h3.2 lo hi
            unfold nx
            simp only [h0.2, e1, e2, e3]
        · rw [if_neg c4] at h; exact absurd rfl h

theorem bt_extract (s : ByteArray) {a p : Nat} (h : a < p) (hp : p ≤ s.size) : bt (s.extract 0 p) a = bt s a := by
  have hs : s.size = s.data.size := rfl
  rw [← get!_bt, ← get!_bt]
  congr 2
  show (s.extract 0 p).data[a]! = s.data[a]!
  rw [ByteArray.data_extract, getElem!_pos (s.data.extract 0 p) a (by rw [Array.size_extract]; omega), getElem!_pos s.data a (by omega), Array.getElem_extract]
  congr 1
  omega
theorem size_cut (s : ByteArray) {p : Nat} (hp : p ≤ s.size) : (s.extract 0 p).size = p := by rw [ByteArray.size_extract]; omega
/-- A character that lies whole in a beginning is a character there. -/
theorem nx_pre {s : ByteArray} {a p : Nat} (hp : p ≤ s.size) (h : nx s a ≠ 0) (ha : a + nx s a ≤ p) : nx (s.extract 0 p) a = nx s a :=
  nx_local h fun k hk => ⟨by rw [size_cut s hp]; omega, bt_extract s (by omega) hp⟩
/-- A character of a beginning is one of the whole. -/
theorem nx_of_pre {s : ByteArray} {a p : Nat} (hp : p ≤ s.size) (h : nx (s.extract 0 p) a ≠ 0) : nx s a = nx (s.extract 0 p) a := by
  have hle := nx_le _ _ h
  rw [size_cut s hp] at hle
  exact nx_local h fun k hk => ⟨by omega, (bt_extract s (by omega) hp).symm⟩

theorem cutP_ge (s : ByteArray) (most : Int) : ∀ (f a : Nat), a ≤ cutP s most f a := by
  intro f
  induction f with
  | zero => intro a; exact Nat.le_refl _
  | succ f ih =>
    intro a
    unfold cutP
    split
    · exact Nat.le_refl _
    · have := ih (a + nx s a); omega
theorem cutP_most (s : ByteArray) (most : Int) : ∀ (f a : Nat), (cutP s most f a : Int) ≤ max (a : Int) most := by
  intro f
  induction f with
  | zero => intro a; exact Int.le_max_left _ _
  | succ f ih =>
    intro a
    unfold cutP
    split
    · exact Int.le_max_left _ _
    · rename_i hc
      have := ih (a + nx s a)
      omega
/-- Where the cut ends, the longest beginning does: nothing stands behind, or no character, or one too many. -/
theorem cutP_stop (s : ByteArray) (most : Int) : ∀ (f a : Nat), s.size ≤ a + f → s.size ≤ cutP s most f a ∨ nx s (cutP s most f a) = 0 ∨ most < (cutP s most f a : Int) + nx s (cutP s most f a) := by
  intro f
  induction f with
  | zero => intro a h; exact .inl (by unfold cutP; omega)
  | succ f ih =>
    intro a h
    unfold cutP
    split
    · assumption
    · rename_i hc
      exact ih _ (by have : nx s a ≠ 0 := fun h0 => hc (.inr (.inl h0)); omega)
/-- A beginning up to a place that the cut goes through has no fault ahead of it; and if it has none at all, none from the cut on. -/
theorem flt_cut (s : ByteArray) (most : Int) : ∀ (f a q g : Nat), cutP s most f a ≤ q → q ≤ s.size → a ≤ s.size → q ≤ a + g →
    ∃ g', q ≤ cutP s most f a + g' ∧ flt (s.extract 0 q) g a = flt (s.extract 0 q) g' (cutP s most f a) := by
  intro f
  induction f with
  | zero => intro a q g h1 h2 h3 h4; exact ⟨g, h4, rfl⟩
  | succ f ih =>
    intro a q g h1 h2 h3 h4
    by_cases hc : s.size ≤ a ∨ nx s a = 0 ∨ most < (a : Int) + nx s a
    · rw [cutP_end hc] at h1 ⊢
      exact ⟨g, h4, rfl⟩
    · have hn : nx s a ≠ 0 := fun h0 => hc (.inr (.inl h0))
      have he : cutP s most (f + 1) a = cutP s most f (a + nx s a) := by
        conv => lhs; unfold cutP
        rw [if_neg hc]
      rw [he] at h1 ⊢
      have hge := cutP_ge s most f (a + nx s a)
      have hx := nx_pre h2 hn (by omega)
      have hsz := size_cut s h2
      obtain ⟨g', hg, hf⟩ := ih (a + nx s a) q (g - 1) h1 h2 (nx_le s a hn) (by omega)
      refine ⟨g', hg, ?_⟩
      rw [flt_step (by omega) (by omega) (by rw [hx]; exact hn), hx, hf]
/-- What the cut leaves is a text. -/
theorem cut_text (s : ByteArray) (most : Int) : (flt (cutS s most) (cutS s most).size 0) = (0, false) := by
  have hle := cutP_le s most s.size 0 (Nat.zero_le _)
  obtain ⟨g', _, hf⟩ := flt_cut s most s.size 0 (cutP s most s.size 0) (cutS s most).size (Nat.le_refl _) hle (Nat.zero_le _) (by unfold cutS; rw [size_cut s hle]; omega)
  unfold cutS at hf ⊢
  rw [hf]
  exact flt_end (by rw [size_cut s hle]; exact Nat.le_refl _)
/-- With n bytes more it is none, or too long. -/
theorem cut_longest (s : ByteArray) (most : Int) (n : Nat) (hn : 1 ≤ n) (hs : cutP s most s.size 0 + n ≤ s.size)
    (hf : (flt (s.extract 0 (cutP s most s.size 0 + n)) (cutP s most s.size 0 + n) 0).2 = false) : most < (cutP s most s.size 0 : Int) + n := by
  obtain ⟨g', hg, he⟩ := flt_cut s most s.size 0 (cutP s most s.size 0 + n) (cutP s most s.size 0 + n) (by omega) hs (Nat.zero_le _) (by omega)
  rw [he] at hf
  have hsz := size_cut s hs
  have hnx : nx (s.extract 0 (cutP s most s.size 0 + n)) (cutP s most s.size 0) ≠ 0 := by
    intro h0
    rw [flt_bad (by omega) (by omega) h0] at hf
    exact absurd hf (by simp)
  have hle := nx_le _ _ hnx
  rw [hsz] at hle
  have hx := nx_of_pre hs hnx
  rcases cutP_stop s most s.size 0 (by omega) with h | h | h
  · omega
  · rw [hx] at h; exact absurd h hnx
  · rw [hx] at h; omega
end Go.Proofs.YtdjiioidkgppjaaDoor.Pl
