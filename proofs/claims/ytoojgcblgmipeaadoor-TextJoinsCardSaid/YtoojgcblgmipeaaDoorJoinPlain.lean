/- Plain facts: two texts are one, with the characters of both; a text is read back from its bytes. No program in sight. -/
import Derived.Test.YtoojgcblgmipeaaDoorTextMore
import Derived.Test.YtoojgcblgmipeaaDoorTextPut
namespace Go.Proofs.YtoojgcblgmipeaaDoor.Pl
open Go.PlainAid (bt bt_nonneg bt_le get_bt bt_end)

theorem size_app (a b : ByteArray) : (a ++ b).size = a.size + b.size := ByteArray.size_append
theorem bt_left (a b : ByteArray) {k : Nat} (h : k < a.size) : bt (a ++ b) k = bt a k := by
  have hs : a.size = a.data.size := rfl
  rw [← get!_bt, ← get!_bt]
  congr 2
  show (a ++ b).data[k]! = a.data[k]!
  rw [ByteArray.data_append, getElem!_pos (a.data ++ b.data) k (by rw [Array.size_append]; omega), getElem!_pos a.data k (by omega), Array.getElem_append_left (by omega)]
theorem bt_right (a b : ByteArray) {k : Nat} (h : k < b.size) : bt (a ++ b) (a.size + k) = bt b k := by
  have hs : a.size = a.data.size := rfl
  have ht : b.size = b.data.size := rfl
  rw [← get!_bt, ← get!_bt]
  congr 2
  show (a ++ b).data[a.size + k]! = b.data[k]!
  rw [ByteArray.data_append, getElem!_pos (a.data ++ b.data) (a.size + k) (by rw [Array.size_append]; omega), getElem!_pos b.data k (by omega), Array.getElem_append_right (by omega)]
  congr 1
  omega
theorem walk_left (a b : ByteArray) : ∀ (f k g : Nat), a.size ≤ k + f → k ≤ a.size → (a ++ b).size ≤ k + g → (flt a f k).2 = false →
    ∃ g', (a ++ b).size ≤ a.size + g' ∧ flt (a ++ b) g k = flt (a ++ b) g' a.size ∧ rns (a ++ b) g k = rns a f k + rns (a ++ b) g' a.size := by
  have hsz := size_app a b
  intro f
  induction f with
  | zero =>
    intro k g h1 h2 h3 h4
    obtain rfl : k = a.size := by omega
    exact ⟨g, h3, rfl, by rw [rns_end (s := a) (by omega), Nat.zero_add]⟩
  | succ f ih =>
    intro k g h1 h2 h3 h4
    by_cases hk : k < a.size
    · by_cases hn : nx a k = 0
      · rw [flt_bad hk h1 hn] at h4; exact absurd h4 (by simp)
      · have hle := nx_le a k hn
        have hx : nx (a ++ b) k = nx a k := nx_local hn fun j hj => ⟨by omega, bt_left a b (by omega)⟩
        rw [flt_step hk h1 hn] at h4
        obtain ⟨g', e1, e2, e3⟩ := ih (k + nx a k) (g - 1) (by omega) hle (by omega) h4
        refine ⟨g', e1, ?_, ?_⟩
        · rw [flt_step (by omega) (by omega) (by rw [hx]; exact hn), hx, e2]
        · rw [rns_step (by omega) (by omega) (by rw [hx]; exact hn), hx, e3, rns_step hk h1 hn]
          have : f + 1 - 1 = f := rfl
          rw [this]
          omega
    · obtain rfl : k = a.size := by omega
      exact ⟨g, h3, rfl, by rw [rns_end (s := a) (by omega), Nat.zero_add]⟩
theorem walk_right (a b : ByteArray) : ∀ (f k g : Nat), b.size ≤ k + f → k ≤ b.size → (a ++ b).size ≤ a.size + k + g → (flt b f k).2 = false →
    flt (a ++ b) g (a.size + k) = (0, false) ∧ rns (a ++ b) g (a.size + k) = rns b f k := by
  have hsz := size_app a b
  intro f
  induction f with
  | zero =>
    intro k g h1 h2 h3 h4
    exact ⟨flt_end (by omega), by rw [rns_end (by omega), rns_end (by omega)]⟩
  | succ f ih =>
    intro k g h1 h2 h3 h4
    by_cases hk : k < b.size
    · by_cases hn : nx b k = 0
      · rw [flt_bad hk h1 hn] at h4; exact absurd h4 (by simp)
      · have hle := nx_le b k hn
        have hx : nx (a ++ b) (a.size + k) = nx b k := nx_local hn fun j hj => ⟨by omega, by rw [Nat.add_assoc]; exact bt_right a b (by omega)⟩
        rw [flt_step hk h1 hn] at h4
        obtain ⟨e2, e3⟩ := ih (k + nx b k) (g - 1) (by omega) hle (by omega) h4
        rw [← Nat.add_assoc] at e2 e3
        refine ⟨?_, ?_⟩
        · rw [flt_step (by omega) (by omega) (by rw [hx]; exact hn), hx, e2]
        · rw [rns_step (by omega) (by omega) (by rw [hx]; exact hn), hx, e3, rns_step hk h1 hn]
          rfl
    · exact ⟨flt_end (by omega), by rw [rns_end (by omega), rns_end (by omega)]⟩
/-- Two texts are one. -/
theorem join_text {a b : ByteArray} (ha : (flt a a.size 0).2 = false) (hb : (flt b b.size 0).2 = false) :
    flt (a ++ b) (a ++ b).size 0 = (0, false) ∧ rns (a ++ b) (a ++ b).size 0 = rns a a.size 0 + rns b b.size 0 := by
  obtain ⟨g', e1, e2, e3⟩ := walk_left a b a.size 0 (a ++ b).size (by omega) (by omega) (by omega) ha
  obtain ⟨e4, e5⟩ := walk_right a b b.size 0 g' (by omega) (by omega) (by omega) hb
  rw [Nat.add_zero] at e4 e5
  exact ⟨e2.trans e4, by rw [e3, e5]⟩

/-- A text is read back from its bytes. -/
theorem data_back {s : ByteArray} (hs : s.size ≤ 65535) : getD (dataS s) 0 = (s, ((dataS s).size : Int), 0) := by
  have hd := (data_ok (s := s) (by omega)).2
  have hfx := (fix_in (w := 2) (n := s.size) (.inr (.inl rfl)) (by omega) (by simp; omega)).2
  have hb : fixS 2 (s.size : Int) = [by8 ((s.size : Int) / 256), by8 (s.size : Int)] := by rw [hfx]; simp [fb]
  rw [hb] at hd
  obtain ⟨h, hh⟩ : ∃ h : ByteArray, h = ⟨[by8 ((s.size : Int) / 256), by8 (s.size : Int)].toArray⟩ := ⟨_, rfl⟩
  have hl : h.size = 2 := by rw [hh]; rfl
  have g0 : bt h 0 = ((s.size : Int) / 256) % 256 := by rw [hh, ← by8_toNat]; rfl
  have g1 : bt h 1 = (s.size : Int) % 256 := by rw [hh, ← by8_toNat]; rfl
  rw [← hh] at hd
  have hsz : (dataS s).size = 2 + s.size := by rw [hd, size_app, hl]
  have h0 : bt (dataS s) 0 = ((s.size : Int) / 256) % 256 := by rw [hd, bt_left _ _ (by omega), g0]
  have h1 : bt (dataS s) 1 = (s.size : Int) % 256 := by rw [hd, bt_left _ _ (by omega), g1]
  have hg : gv (dataS s) 0 2 = (s.size : Int) := by
    show (0 * 256 + bt (dataS s) (0 + 0)) * 256 + bt (dataS s) (0 + 1) = _
    rw [Nat.zero_add, Nat.zero_add, h0, h1]
    omega
  have hF : getF (dataS s) ((0 : Nat) : Int) 2 = ((s.size : Int), ((2 : Nat) : Int), 0) := by
    rw [getF_ok (.inr (.inl rfl)) (by omega)]
    show (gv (dataS s) 0 2, ((0 : Nat) : Int) + 2, (0 : Int)) = _
    rw [hg]
    rfl
  have hD := getD_ok (m := s.size) (f := 2) hF (by omega)
  show getD (dataS s) ((0 : Nat) : Int) = _
  rw [hD, hsz]
  have he : (dataS s).extract 2 (2 + s.size) = s := by
    rw [hd]
    exact ByteArray.extract_append_eq_right hl.symm (by rw [hl])
  rw [he]
  simp
/-- A text of a few bytes is written whole, and read back. -/
theorem tput_back {s : ByteArray} (hs : s.size ≤ 65535) (ht : (flt s s.size 0).2 = false) : tputC s = 0 ∧ tget (tputS s) 0 = (s, ((tputS s).size : Int), 0) := by
  obtain ⟨e1, e2⟩ := tput_ok ht
  refine ⟨by rw [e1, (data_ok (by omega)).1], ?_⟩
  rw [e2]
  exact tget_ok (data_back hs) ht
theorem cut_size (s : ByteArray) (most : Int) (h0 : 0 ≤ most) : ((cutS s most).size : Int) ≤ most ∧ (cutS s most).size ≤ s.size := by
  have hple := cutP_le s most s.size 0 (Nat.zero_le _)
  have hpm := cutP_most s most s.size 0
  have hcz : (cutS s most).size = cutP s most s.size 0 := by unfold cutS; rw [size_cut s hple]
  omega
end Go.Proofs.YtoojgcblgmipeaaDoor.Pl
