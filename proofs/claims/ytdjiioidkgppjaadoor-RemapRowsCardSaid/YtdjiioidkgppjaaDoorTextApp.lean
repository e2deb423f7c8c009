/- Plain facts: two texts are one; what a slash parts are texts. No program in sight. -/
import Derived.Test.YtdjiioidkgppjaaDoorTextMore
namespace Go.Proofs.YtdjiioidkgppjaaDoor.Pl
open Go.PlainAid (bt bt_nonneg bt_le get_bt bt_end)

theorem size_app (a b : ByteArray) : (a ++ b).size = a.size + b.size := ByteArray.size_append
theorem bt_left (a b : ByteArray) {k : Nat} (h : k < a.size) : bt (a ++ b) k = bt a k := by
  have hs : a.size = a.data.size := rfl
  rw [← get!_bt, ← get!_bt]
  congr 2
  show (a ++ b).data[k]! = a.data[k]!
  rw [ByteArray.data_append, getElem!_pos (a.data ++ b.data) k (by rw [Array.size_append]; omega), getElem!_pos a.data k (by omega), Array.getElem_append_left (by omega)]
theorem bt_right (a b : ByteArray) {k : Nat} (h : k < b.size) : bt (a ++ b) (a.size + k) = bt b k := by
  have hs : a.size = a.data.size := rfl
  have ht : b.size = b.data.size := rfl
  rw [← get!_bt, ← get!_bt]
  congr 2
  show (a ++ b).data[a.size + k]! = b.data[k]!
  rw [ByteArray.data_append, getElem!_pos (a.data ++ b.data) (a.size + k) (by rw [Array.size_append]; omega), getElem!_pos b.data k (by omega), Array.getElem_append_right (by omega)]
  congr 1
  omega
theorem walk_left (a b : ByteArray) : ∀ (f k g : Nat), a.size ≤ k + f → k ≤ a.size → (a ++ b).size ≤ k + g → (flt a f k).2 = false →
    ∃ g', (a ++ b).size ≤ a.size + g' ∧ flt (a ++ b) g k = flt (a ++ b) g' a.size ∧ rns (a ++ b) g k = rns a f k + rns (a ++ b) g' a.size := by
  have hsz := size_app a b
  intro f
  induction f with
  | zero =>
    intro k g h1 h2 h3 h4
    obtain rfl : k = a.size := by omega
    exact ⟨g, h3, rfl, by rw [rns_end (s := a) (by omega), Nat.zero_add]⟩
  | succ f ih =>
    intro k g h1 h2 h3 h4
    by_cases hk : k < a.size
    · by_cases hn : nx a k = 0
      · rw [flt_bad hk h1 hn] at h4; exact absurd h4 (by simp)
      · have hle := nx_le a k hn
        have hx : nx (a ++ b) k = nx a k := nx_local hn fun j hj => ⟨by omega, bt_left a b (by omega)⟩
        rw [flt_step hk h1 hn] at h4
        obtain ⟨g', e1, e2, e3⟩ := ih (k + nx a k) (g - 1) (by omega) hle (by omega) h4
        refine ⟨g', e1, ?_, ?_⟩
        · rw [flt_step (by omega) (by omega) (by rw [hx]; exact hn), hx, e2]
        · rw [rns_step (by omega) (by omega) (by rw [hx]; exact hn), hx, e3, rns_step hk h1 hn]
          have : f + 1 - 1 = f := rfl
          rw [this]
          omega
    · obtain rfl : k = a.size := by omega
      exact ⟨g, h3, rfl, by rw [rns_end (s := a) (by omega), Nat.zero_add]⟩
theorem walk_right (a b : ByteArray) : ∀ (f k g : Nat), b.size ≤ k + f → k ≤ b.size → (a ++ b).size ≤ a.size + k + g → (flt b f k).2 = false →
    flt (a ++ b) g (a.size + k) = (0, false) ∧ rns (a ++ b) g (a.size + k) = rns b f k := by
  have hsz := size_app a b
  intro f
  induction f with
  | zero =>
    intro k g h1 h2 h3 h4
    exact ⟨flt_end (by omega), by rw [rns_end (by omega), rns_end (by omega)]⟩
  | succ f ih =>
    intro k g h1 h2 h3 h4
    by_cases hk : k < b.size
    · by_cases hn : nx b k = 0
      · rw [flt_bad hk h1 hn] at h4; exact absurd h4 (by simp)
      · have hle := nx_le b k hn
        have hx : nx (a ++ b) (a.size + k) = nx b k := nx_local hn fun j hj => ⟨by omega, by rw [Nat.add_assoc]; exact bt_right a b (by omega)⟩
        rw [flt_step hk h1 hn] at h4
        obtain ⟨e2, e3⟩ := ih (k + nx b k) (g - 1) (by omega) hle (by omega) h4
        rw [← Nat.add_assoc] at e2 e3
        refine ⟨?_, ?_⟩
        · rw [flt_step (by omega) (by omega) (by rw [hx]; exact hn), hx, e2]
        · rw [rns_step (by omega) (by omega) (by rw [hx]; exact hn), hx, e3, rns_step hk h1 hn]
          rfl
    · exact ⟨flt_end (by omega), by rw [rns_end (by omega), rns_end (by omega)]⟩
/-- Two texts are one. -/
theorem join_text {a b : ByteArray} (ha : (flt a a.size 0).2 = false) (hb : (flt b b.size 0).2 = false) :
    flt (a ++ b) (a ++ b).size 0 = (0, false) ∧ rns (a ++ b) (a ++ b).size 0 = rns a a.size 0 + rns b b.size 0 := by
  obtain ⟨g', e1, e2, e3⟩ := walk_left a b a.size 0 (a ++ b).size (by omega) (by omega) (by omega) ha
  obtain ⟨e4, e5⟩ := walk_right a b b.size 0 g' (by omega) (by omega) (by omega) hb
  rw [Nat.add_zero] at e4 e5
  exact ⟨e2.trans e4, by rw [e3, e5]⟩


theorem nx_tail {s : ByteArray} {a k : Nat} (h : nx s a ≠ 0) (h1 : 1 ≤ k) (h2 : k < nx s a) : 128 ≤ bt s (a + k) := by
  unfold nx at h h2
  by_cases c1 : 1 ≤ bt s a ∧ bt s a ≤ 127
  · rw [if_pos c1] at h2; omega
  · rw [if_neg c1] at h h2
    by_cases c2 : 194 ≤ bt s a ∧ bt s a ≤ 223 ∧ tl s (a + 1) 128 191 = true
    · rw [if_pos c2] at h2
      obtain rfl : k = 1 := by omega
      exact (tl_iff.1 c2.2.2).2.1
    · rw [if_neg c2] at h h2
      by_cases c3 : 224 ≤ bt s a ∧ bt s a ≤ 239 ∧ tl s (a + 1) 128 191 = true ∧ tl s (a + 2) 128 191 = true
      · rw [if_pos c3] at h h2
        have : k < 3 := by split at h2 <;> omega
        obtain rfl | rfl : k = 1 ∨ k = 2 := by omega
        · exact (tl_iff.1 c3.2.2.1).2.1
        · exact (tl_iff.1 c3.2.2.2).2.1
      · rw [if_neg c3] at h h2
        by_cases c4 : 240 ≤ bt s a ∧ bt s a ≤ 244 ∧ tl s (a + 1) 128 191 = true ∧ tl s (a + 2) 128 191 = true ∧ tl s (a + 3) 128 191 = true
        · rw [if_pos c4] at h h2
          have : k < 4 := by split at h2 <;> omega
          obtain rfl | rfl | rfl : k = 1 ∨ k = 2 ∨ k = 3 := by omega
          · exact (tl_iff.1 c4.2.2.1).2.1
          · exact (tl_iff.1 c4.2.2.2.1).2.1
          · exact (tl_iff.1 c4.2.2.2.2).2.1
        · rw [if_neg c4] at h; exact absurd rfl h

/-- Ahead of a byte below 128 the walk goes as in that part alone, and comes to that byte. -/
theorem walk_part (a b : ByteArray) (hb : bt (a ++ b) a.size < 128) (hs : a.size < (a ++ b).size) : ∀ (f k g : Nat), (a ++ b).size ≤ k + f → k ≤ a.size → a.size ≤ k + g → (flt (a ++ b) f k).2 = false →
    (flt a g k).2 = false ∧ ∃ f', (a ++ b).size ≤ a.size + f' ∧ (flt (a ++ b) f' a.size).2 = false := by
  have hsz := size_app a b
  intro f
  induction f with
  | zero => intro k g h1 h2 h3 h4; omega
  | succ f ih =>
    intro k g h1 h2 h3 h4
    by_cases hk : k < a.size
    · by_cases hn : nx (a ++ b) k = 0
      · rw [flt_bad (by omega) h1 hn] at h4; exact absurd h4 (by simp)
      · have hle : k + nx (a ++ b) k ≤ a.size := by
          apply Decidable.byContradiction
          intro hc
          have := nx_tail (s := a ++ b) (a := k) (k := a.size - k) hn (by omega) (by omega)
          rw [show k + (a.size - k) = a.size by omega] at this
          omega
        have hx : nx a k = nx (a ++ b) k := nx_local hn fun j hj => ⟨by omega, (bt_left a b (by omega)).symm⟩
        rw [flt_step (by omega) h1 hn] at h4
        obtain ⟨e1, e2⟩ := ih (k + nx (a ++ b) k) (g - 1) (by omega) hle (by omega) h4
        refine ⟨?_, e2⟩
        rw [flt_step hk (by omega) (by rw [hx]; exact hn), hx]
        exact e1
    · obtain rfl : k = a.size := by omega
      exact ⟨by rw [flt_end (by omega)], f + 1, h1, h4⟩
theorem walk_behind (a b : ByteArray) : ∀ (f k g : Nat), (a ++ b).size ≤ a.size + k + f → k ≤ b.size → b.size ≤ k + g → (flt (a ++ b) f (a.size + k)).2 = false → (flt b g k).2 = false := by
  have hsz := size_app a b
  intro f
  induction f with
  | zero => intro k g h1 h2 h3 h4; rw [flt_end (by omega)]
  | succ f ih =>
    intro k g h1 h2 h3 h4
    by_cases hk : k < b.size
    · by_cases hn : nx (a ++ b) (a.size + k) = 0
      · rw [flt_bad (by omega) h1 hn] at h4; exact absurd h4 (by simp)
      · have hle := nx_le (a ++ b) (a.size + k) hn
        have hx : nx b k = nx (a ++ b) (a.size + k) := nx_local hn fun j hj => ⟨by omega, by rw [Nat.add_assoc]; exact (bt_right a b (by omega)).symm⟩
        rw [flt_step (by omega) h1 hn, Nat.add_assoc] at h4
        rw [flt_step hk (by omega) (by rw [hx]; exact hn), hx]
        exact ih _ (g - 1) (by omega) (by omega) (by omega) h4
    · rw [flt_end (by omega)]

/-- Is it a text? -/
def txt (l : List UInt8) : Bool := !(flt ⟨l.toArray⟩ l.length 0).2
theorem txt_iff (s : ByteArray) : txt s.data.toList = !(flt s s.size 0).2 := by
  unfold txt
  have : s.data.toList.length = s.size := rfl
  rw [this]
theorem mk_app (a b : List UInt8) : (⟨(a ++ b).toArray⟩ : ByteArray) = ⟨a.toArray⟩ ++ ⟨b.toArray⟩ := by
  apply ByteArray.ext
  simp
theorem txt_app {a b : List UInt8} (ha : txt a = true) (hb : txt b = true) : txt (a ++ b) = true := by
  have h := (join_text (a := ⟨a.toArray⟩) (b := ⟨b.toArray⟩) (by simpa [txt, ByteArray.size] using ha) (by simpa [txt, ByteArray.size] using hb)).1
  rw [← mk_app] at h
  unfold txt
  have e : (⟨(a ++ b).toArray⟩ : ByteArray).size = (a ++ b).length := by simp [ByteArray.size]
  rw [e] at h
  rw [h]; rfl
theorem txt_nil : txt [] = true := rfl
/-- What stands ahead of and behind a byte below 128 of a text are texts. -/
theorem txt_part {a b : List UInt8} {c : UInt8} (hc : c.toNat < 128) (h : txt (a ++ c :: b) = true) : txt a = true ∧ txt b = true := by
  have hA : (⟨a.toArray⟩ : ByteArray).size = a.length := by simp [ByteArray.size]
  have hB : (⟨(c :: b).toArray⟩ : ByteArray).size = b.length + 1 := by simp [ByteArray.size]
  have hb0 : bt ⟨(c :: b).toArray⟩ 0 = c.toNat := by
    rw [← get!_bt]
    rfl
  have hsz := size_app ⟨a.toArray⟩ ⟨(c :: b).toArray⟩
  have hbt : bt ((⟨a.toArray⟩ : ByteArray) ++ ⟨(c :: b).toArray⟩) (⟨a.toArray⟩ : ByteArray).size = c.toNat := by
    rw [← hb0]
    exact bt_right ⟨a.toArray⟩ ⟨(c :: b).toArray⟩ (k := 0) (by omega)
  have h0 : (flt ((⟨a.toArray⟩ : ByteArray) ++ ⟨(c :: b).toArray⟩) (a ++ c :: b).length 0).2 = false := by
    rw [← mk_app]; simpa [txt] using h
  have hlen : (a ++ c :: b).length = a.length + (b.length + 1) := by simp
  obtain ⟨e1, f', e2, e3⟩ := walk_part ⟨a.toArray⟩ ⟨(c :: b).toArray⟩ (by rw [hbt]; omega) (by omega) (a ++ c :: b).length 0 a.length (by omega) (by omega) (by omega) h0
  refine ⟨by simpa [txt] using e1, ?_⟩
  have e4 := walk_behind ⟨a.toArray⟩ ⟨(c :: b).toArray⟩ f' 0 (b.length + 1) (by omega) (by omega) (by omega) e3
  by_cases hz : c.toNat = 0
  · have hn : nx ⟨(c :: b).toArray⟩ 0 = 0 := by
      unfold nx
      rw [hb0, if_neg (by omega), if_neg (by omega), if_neg (by omega), if_neg (by omega)]
    rw [flt_bad (by omega) (by omega) hn] at e4
    exact absurd e4 (by simp)
  · have hn : nx ⟨(c :: b).toArray⟩ 0 = 1 := by
      unfold nx
      rw [hb0, if_pos (by omega)]
    rw [flt_step (by omega) (by omega) (by omega), hn] at e4
    have ec : (⟨(c :: b).toArray⟩ : ByteArray) = ⟨[c].toArray⟩ ++ ⟨b.toArray⟩ := mk_app [c] b
    rw [ec] at e4
    have e5 := walk_behind ⟨[c].toArray⟩ ⟨b.toArray⟩ (b.length + 1 - 1) 0 b.length (by rw [size_app]; simp [ByteArray.size]) (by omega) (by simp [ByteArray.size]) (by simpa [ByteArray.size] using e4)
    simpa [txt] using e5
end Go.Proofs.YtdjiioidkgppjaaDoor.Pl
