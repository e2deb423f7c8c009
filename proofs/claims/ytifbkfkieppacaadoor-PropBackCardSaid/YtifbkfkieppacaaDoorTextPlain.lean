/- Plain facts about texts: how many bytes the character at a place has; faults, counts, cuts; no program in sight. -/
import Derived.Test.YtifbkfkieppacaaDoorAux
import Derived.Shelf.Unicode.DecodeAny
import Derived.Laws.Strings
namespace Go.Proofs.YtifbkfkieppacaaDoor.Pl
open Go.PlainAid (bt bt_nonneg bt_le get_bt bt_end)

/-- Is there a byte from lo up to hi at a place? -/
def tl (s : ByteArray) (a : Nat) (lo hi : Int) : Bool := decide (a < s.size) && (decide (lo ≤ bt s a) && decide (bt s a ≤ hi))
/-- How many bytes the character at a place has; 0: there is none that may be. -/
def nx (s : ByteArray) (a : Nat) : Nat :=
  if 1 ≤ bt s a ∧ bt s a ≤ 127 then 1
  else if 194 ≤ bt s a ∧ bt s a ≤ 223 ∧ tl s (a + 1) 128 191 = true then 2
  else if 224 ≤ bt s a ∧ bt s a ≤ 239 ∧ tl s (a + 1) 128 191 = true ∧ tl s (a + 2) 128 191 = true then
    (if (bt s a = 224 ∧ tl s (a + 1) 160 191 = false) ∨ (bt s a = 237 ∧ tl s (a + 1) 128 159 = false) then 0 else 3)
  else if 240 ≤ bt s a ∧ bt s a ≤ 244 ∧ tl s (a + 1) 128 191 = true ∧ tl s (a + 2) 128 191 = true ∧ tl s (a + 3) 128 191 = true then
    (if (bt s a = 240 ∧ tl s (a + 1) 144 191 = false) ∨ (bt s a = 244 ∧ tl s (a + 1) 128 143 = false) then 0 else 4)
  else 0

theorem tl_iff {s : ByteArray} {a : Nat} {lo hi : Int} : tl s a lo hi = true ↔ a < s.size ∧ lo ≤ bt s a ∧ bt s a ≤ hi := by
  unfold tl
  simp only [Bool.and_eq_true, decide_eq_true_eq]
theorem tl_not {s : ByteArray} {a : Nat} {lo hi : Int} : tl s a lo hi = false ↔ ¬ (a < s.size ∧ lo ≤ bt s a ∧ bt s a ≤ hi) := by
  rw [← tl_iff]
  simp

theorem get!_bt (s : ByteArray) (k : Nat) : ((s.get! k).toNat : Int) = bt s k := by
  unfold bt
  by_cases h : k < s.size
  · rw [dif_pos h]
    congr 2
    show s.data[k]! = s[k]
    rw [getElem!_pos s.data k h]
    rfl
  · rw [dif_neg h]
    show ((s.data[k]!).toNat : Int) = 0
    rw [getElem!_neg s.data k h]
    rfl

/-- What the decoder gives, in numbers. -/
def dec4 (b0 b1 b2 b3 : Nat) (c1 c2 c3 : Bool) : Nat × Nat :=
  if b0 < 128 then (b0, 1)
  else if b0 / 32 == 6 && c1 then (if (b0 % 32) * 64 + b1 % 64 ≥ 128 then ((b0 % 32) * 64 + b1 % 64, 2) else (Utf8.runeError, 1))
  else if b0 / 16 == 14 && c1 && c2 then
    (if (b0 % 16) * 4096 + (b1 % 64) * 64 + b2 % 64 ≥ 2048 && Utf8.valid (((b0 % 16) * 4096 + (b1 % 64) * 64 + b2 % 64 : Nat) : Int) then ((b0 % 16) * 4096 + (b1 % 64) * 64 + b2 % 64, 3) else (Utf8.runeError, 1))
  else if b0 / 8 == 30 && c1 && c2 && c3 then
    (if (b0 % 8) * 262144 + (b1 % 64) * 4096 + (b2 % 64) * 64 + b3 % 64 ≥ 65536 && Utf8.valid (((b0 % 8) * 262144 + (b1 % 64) * 4096 + (b2 % 64) * 64 + b3 % 64 : Nat) : Int) then
      ((b0 % 8) * 262144 + (b1 % 64) * 4096 + (b2 % 64) * 64 + b3 % 64, 4) else (Utf8.runeError, 1))
  else (Utf8.runeError, 1)
theorem decode_dec4 (s : ByteArray) (a : Nat) : Utf8.decode s a = dec4 (s.get! a).toNat (s.get! (a + 1)).toNat (s.get! (a + 2)).toNat (s.get! (a + 3)).toNat
    (decide (a + 1 < s.size) && (s.get! (a + 1)).toNat / 64 == 2) (decide (a + 2 < s.size) && (s.get! (a + 2)).toNat / 64 == 2) (decide (a + 3 < s.size) && (s.get! (a + 3)).toNat / 64 == 2) := rfl
/-- The count, in numbers. -/
def nx4 (b0 b1 : Nat) (c1 c2 c3 : Bool) : Nat :=
  if 1 ≤ b0 ∧ b0 ≤ 127 then 1
  else if 194 ≤ b0 ∧ b0 ≤ 223 ∧ c1 = true then 2
  else if 224 ≤ b0 ∧ b0 ≤ 239 ∧ c1 = true ∧ c2 = true then (if (b0 = 224 ∧ b1 < 160) ∨ (b0 = 237 ∧ 159 < b1) then 0 else 3)
  else if 240 ≤ b0 ∧ b0 ≤ 244 ∧ c1 = true ∧ c2 = true ∧ c3 = true then (if (b0 = 240 ∧ b1 < 144) ∨ (b0 = 244 ∧ 143 < b1) then 0 else 4)
  else 0
theorem valid_iff (n : Nat) : Utf8.valid (n : Int) = true ↔ (n < 55296 ∨ (57344 ≤ n ∧ n ≤ 1114111)) := by
  unfold Utf8.valid
  simp only [Bool.or_eq_true, Bool.and_eq_true, decide_eq_true_eq]
  omega
/-- A pair of a rune and its width, as 'next' takes it. -/
def tk (p : Nat × Nat) : Nat := if p.1 = 0 ∨ (p.1 = 65533 ∧ p.2 < 2) then 0 else p.2
theorem tk_bad : tk (Utf8.runeError, 1) = 0 := by decide
theorem tk_ok {c n : Nat} (h0 : c ≠ 0) (hn : 2 ≤ n) : tk (c, n) = n := by
  unfold tk
  rw [if_neg]
  rintro (h | ⟨_, h⟩)
  · exact h0 h
  · exact absurd h (by simp; omega)
theorem tk_one {c : Nat} (h0 : c ≠ 0) (h1 : c < 128) : tk (c, 1) = 1 := by
  unfold tk
  rw [if_neg]
  rintro (h | ⟨h, _⟩)
  · exact h0 h
  · simp at h; omega
theorem nx4_dec4 (b0 b1 b2 b3 : Nat) (c1 c2 c3 : Bool) (h0 : b0 < 256) (h1 : c1 = true → b1 / 64 = 2) : nx4 b0 b1 c1 c2 c3 = tk (dec4 b0 b1 b2 b3 c1 c2 c3) := by
  unfold nx4 dec4
  by_cases hA : b0 < 128
  · rw [if_pos hA]
    by_cases hz : b0 = 0
    · subst hz; rfl
    · rw [if_pos (by omega), tk_one hz hA]
  · rw [if_neg hA, if_neg (by omega)]
    by_cases hC : b0 < 224
    · rw [if_neg (show ¬ (224 ≤ b0 ∧ b0 ≤ 239 ∧ c1 = true ∧ c2 = true) by omega), if_neg (show ¬ (240 ≤ b0 ∧ b0 ≤ 244 ∧ c1 = true ∧ c2 = true ∧ c3 = true) by omega)]
      by_cases hB : b0 < 192
      · have e1 : (b0 / 32 == 6) = false := by rw [beq_eq_false_iff_ne]; omega
        have e2 : (b0 / 16 == 14) = false := by rw [beq_eq_false_iff_ne]; omega
        have e3 : (b0 / 8 == 30) = false := by rw [beq_eq_false_iff_ne]; omega
        rw [if_neg (by omega)]
        simp only [e1, e2, e3, Bool.false_and, Bool.false_eq_true, if_false]
        exact tk_bad.symm
      · have e1 : (b0 / 32 == 6) = true := by rw [beq_iff_eq]; omega
        have e2 : (b0 / 16 == 14) = false := by rw [beq_eq_false_iff_ne]; omega
        have e3 : (b0 / 8 == 30) = false := by rw [beq_eq_false_iff_ne]; omega
        simp only [e1, e2, e3, Bool.false_and, Bool.true_and, Bool.false_eq_true, if_false]
        cases c1
        · rw [if_neg (by simp), if_neg (by simp)]
          exact tk_bad.symm
        · rw [if_pos rfl]
          have h1' := h1 rfl
          by_cases hE : 194 ≤ b0
          · rw [if_pos ⟨hE, by omega, rfl⟩, if_pos (by omega), tk_ok (by omega) (by omega)]
          · rw [if_neg (by omega), if_neg (by omega), tk_bad]
    · rw [if_neg (show ¬ (194 ≤ b0 ∧ b0 ≤ 223 ∧ c1 = true) by omega)]
      have e1 : (b0 / 32 == 6) = false := by rw [beq_eq_false_iff_ne]; omega
      simp only [e1, Bool.false_and, Bool.false_eq_true, if_false]
      by_cases hD : b0 < 240
      · have e2 : (b0 / 16 == 14) = true := by rw [beq_iff_eq]; omega
        have e3 : (b0 / 8 == 30) = false := by rw [beq_eq_false_iff_ne]; omega
        simp only [e2, e3, Bool.false_and, Bool.true_and, Bool.false_eq_true, if_false]
        cases c1
        · simp only [Bool.false_and, Bool.false_eq_true, if_false, false_and, and_false]
          exact tk_bad.symm
        · cases c2
          · simp only [Bool.and_false, Bool.false_eq_true, if_false, false_and, and_false]
            exact tk_bad.symm
          · have h1' := h1 rfl
            simp only [Bool.and_self, if_true, and_self, and_true, Bool.and_eq_true, decide_eq_true_eq, valid_iff, ge_iff_le]
            rw [if_pos (by omega)]
            by_cases hF : (b0 = 224 ∧ b1 < 160) ∨ (b0 = 237 ∧ 159 < b1)
            · rw [if_pos hF, if_neg (by omega), tk_bad]
            · rw [if_neg hF, if_pos (by omega), tk_ok (by omega) (by omega)]
      · have e2 : (b0 / 16 == 14) = false := by rw [beq_eq_false_iff_ne]; omega
        rw [if_neg (show ¬ (224 ≤ b0 ∧ b0 ≤ 239 ∧ c1 = true ∧ c2 = true) by omega)]
        simp only [e2, Bool.false_and, Bool.false_eq_true, if_false]
        by_cases hG : b0 < 248
        · have e3 : (b0 / 8 == 30) = true := by rw [beq_iff_eq]; omega
          simp only [e3, Bool.true_and]
          cases c1
          · simp only [Bool.false_and, Bool.false_eq_true, if_false, false_and, and_false]
            exact tk_bad.symm
          · cases c2
            · simp only [Bool.and_false, Bool.false_and, Bool.false_eq_true, if_false, false_and, and_false]
              exact tk_bad.symm
            · cases c3
              · simp only [Bool.and_false, Bool.false_eq_true, if_false, and_false]
                exact tk_bad.symm
              · have h1' := h1 rfl
                simp only [Bool.and_self, if_true, and_self, and_true, Bool.and_eq_true, decide_eq_true_eq, valid_iff, ge_iff_le]
                by_cases hH : b0 ≤ 244
                · rw [if_pos (by omega)]
                  by_cases hF : (b0 = 240 ∧ b1 < 144) ∨ (b0 = 244 ∧ 143 < b1)
                  · rw [if_pos hF, if_neg (by omega), tk_bad]
                  · rw [if_neg hF, if_pos (by omega), tk_ok (by omega) (by omega)]
                · rw [if_neg (by omega), if_neg (by omega), tk_bad]
        · have e3 : (b0 / 8 == 30) = false := by rw [beq_eq_false_iff_ne]; omega
          rw [if_neg (by omega)]
          simp only [e3, Bool.false_and, Bool.false_eq_true, if_false]
          exact tk_bad.symm
theorem tl_get (s : ByteArray) (k : Nat) : tl s k 128 191 = (decide (k < s.size) && (s.get! k).toNat / 64 == 2) := by
  have h := get!_bt s k
  rw [Bool.eq_iff_iff, tl_iff]
  simp only [Bool.and_eq_true, decide_eq_true_eq, beq_iff_eq]
  omega
theorem nx_nx4 (s : ByteArray) (a : Nat) : nx s a = nx4 (s.get! a).toNat (s.get! (a + 1)).toNat (tl s (a + 1) 128 191) (tl s (a + 2) 128 191) (tl s (a + 3) 128 191) := by
  have h0 := get!_bt s a
  have h1 := get!_bt s (a + 1)
  unfold nx nx4
  rw [← h0]
  generalize (s.get! a).toNat = b0 at *
  have eq1 : (1 ≤ (b0 : Int) ∧ (b0 : Int) ≤ 127) = (1 ≤ b0 ∧ b0 ≤ 127) := by rw [eq_iff_iff]; omega
  simp only [eq1]
  by_cases hc1 : tl s (a + 1) 128 191 = true
  · have hs := (tl_iff.1 hc1).1
    have hr1 : 128 ≤ bt s (a + 1) := (tl_iff.1 hc1).2.1
    have hr2 : bt s (a + 1) ≤ 191 := (tl_iff.1 hc1).2.2
    rw [hc1]
    have t1 : (tl s (a + 1) 160 191 = false) = ((s.get! (a + 1)).toNat < 160) := by rw [eq_iff_iff, tl_not]; omega
    have t2 : (tl s (a + 1) 128 159 = false) = (159 < (s.get! (a + 1)).toNat) := by rw [eq_iff_iff, tl_not]; omega
    have t3 : (tl s (a + 1) 144 191 = false) = ((s.get! (a + 1)).toNat < 144) := by rw [eq_iff_iff, tl_not]; omega
    have t4 : (tl s (a + 1) 128 143 = false) = (143 < (s.get! (a + 1)).toNat) := by rw [eq_iff_iff, tl_not]; omega
    have k1 : (194 ≤ (b0 : Int)) = (194 ≤ b0) := by rw [eq_iff_iff]; omega
    have k0 : ((b0 : Int) ≤ 223) = (b0 ≤ 223) := by rw [eq_iff_iff]; omega
    have k2 : (224 ≤ (b0 : Int)) = (224 ≤ b0) := by rw [eq_iff_iff]; omega
    have k3 : ((b0 : Int) ≤ 239) = (b0 ≤ 239) := by rw [eq_iff_iff]; omega
    have k4 : (240 ≤ (b0 : Int)) = (240 ≤ b0) := by rw [eq_iff_iff]; omega
    have k5 : ((b0 : Int) ≤ 244) = (b0 ≤ 244) := by rw [eq_iff_iff]; omega
    have k6 : ((b0 : Int) = 224) = (b0 = 224) := by rw [eq_iff_iff]; omega
    have k7 : ((b0 : Int) = 237) = (b0 = 237) := by rw [eq_iff_iff]; omega
    have k8 : ((b0 : Int) = 240) = (b0 = 240) := by rw [eq_iff_iff]; omega
    have k9 : ((b0 : Int) = 244) = (b0 = 244) := by rw [eq_iff_iff]; omega
    simp only [t1, t2, t3, t4, k0, k1, k2, k3, k4, k5, k6, k7, k8, k9, true_and]
  · have hc1' : tl s (a + 1) 128 191 = false := by simpa using hc1
    rw [hc1']
    simp
/-- Go's decoder and the count: the rune r and its width n. -/
theorem nx_decode (s : ByteArray) (a : Nat) : nx s a = if (Utf8.decode s a).1 = 0 ∨ ((Utf8.decode s a).1 = 65533 ∧ (Utf8.decode s a).2 < 2) then 0 else (Utf8.decode s a).2 := by
  show nx s a = tk (Utf8.decode s a)
  rw [nx_nx4, decode_dec4, ← tl_get, ← tl_get, ← tl_get]
  refine nx4_dec4 _ _ _ _ _ _ _ ?_ ?_
  · exact (s.get! a).toNat_lt
  · intro h
    have := get!_bt s (a + 1)
    have := tl_iff.1 h
    omega

theorem nx_le (s : ByteArray) (a : Nat) (h : nx s a ≠ 0) : a + nx s a ≤ s.size := by
  have h0 : ¬ bt s a = 0 → a < s.size := fun h1 => by
    by_cases h2 : a < s.size
    · exact h2
    · exact absurd (bt_end s (by omega)) h1
  have t1 : tl s (a + 1) 128 191 = true → a + 1 < s.size := fun h => (tl_iff.1 h).1
  have t2 : tl s (a + 2) 128 191 = true → a + 2 < s.size := fun h => (tl_iff.1 h).1
  have t3 : tl s (a + 3) 128 191 = true → a + 3 < s.size := fun h => (tl_iff.1 h).1
  unfold nx at h ⊢
  split
  · have := h0 (by omega); omega
  · rename_i g1
    rw [if_neg g1] at h
    split
    · rename_i g2; have := t1 g2.2.2; omega
    · rename_i g2
      rw [if_neg g2] at h
      split
      · rename_i g3
        have := t2 g3.2.2.2
        split <;> omega
      · rename_i g3
        rw [if_neg g3] at h
        split
        · rename_i g4
          have := t3 g4.2.2.2.2
          split <;> omega
        · rename_i g4
          rw [if_neg g4] at h
          exact absurd rfl h
theorem nx_le4 (s : ByteArray) (a : Nat) : nx s a ≤ 4 := by
  unfold nx
  repeat' split
  all_goals omega

/-- The first byte at which a text is none (and whether there is one), from a place on. -/
def flt (s : ByteArray) : Nat → Nat → Int × Bool
  | 0, _ => (0, false)
  | f + 1, a => if s.size ≤ a then (0, false) else if nx s a = 0 then ((a : Int), true) else flt s f (a + nx s a)
theorem flt_end {s : ByteArray} {f a : Nat} (h : s.size ≤ a) : flt s f a = (0, false) := by
  cases f with
  | zero => rfl
  | succ f => unfold flt; rw [if_pos h]
theorem flt_bad {s : ByteArray} {f a : Nat} (h : a < s.size) (hf : s.size ≤ a + f) (hn : nx s a = 0) : flt s f a = ((a : Int), true) := by
  obtain ⟨g, rfl⟩ : ∃ g, f = g + 1 := ⟨f - 1, by omega⟩
  unfold flt
  rw [if_neg (by omega), if_pos hn]
theorem flt_step {s : ByteArray} {f a : Nat} (h : a < s.size) (hf : s.size ≤ a + f) (hn : nx s a ≠ 0) : flt s f a = flt s (f - 1) (a + nx s a) := by
  obtain ⟨g, rfl⟩ : ∃ g, f = g + 1 := ⟨f - 1, by omega⟩
  conv => lhs; unfold flt
  rw [if_neg (by omega), if_neg hn]
  rfl
/-- How many characters stand from a place on. -/
def rns (s : ByteArray) : Nat → Nat → Nat
  | 0, _ => 0
  | f + 1, a => if s.size ≤ a then 0 else if nx s a = 0 then 0 else 1 + rns s f (a + nx s a)
theorem rns_end {s : ByteArray} {f a : Nat} (h : s.size ≤ a) : rns s f a = 0 := by
  cases f with
  | zero => rfl
  | succ f => unfold rns; rw [if_pos h]
theorem rns_bad {s : ByteArray} {f a : Nat} (hn : nx s a = 0) : rns s f a = 0 := by
  cases f with
  | zero => rfl
  | succ f => unfold rns; rw [if_pos hn]; split <;> rfl
theorem rns_step {s : ByteArray} {f a : Nat} (h : a < s.size) (hf : s.size ≤ a + f) (hn : nx s a ≠ 0) : rns s f a = 1 + rns s (f - 1) (a + nx s a) := by
  obtain ⟨g, rfl⟩ : ∃ g, f = g + 1 := ⟨f - 1, by omega⟩
  conv => lhs; unfold rns
  rw [if_neg (by omega), if_neg hn]
  rfl
theorem rns_le (s : ByteArray) : ∀ (f a : Nat), rns s f a ≤ s.size - a := by
  intro f
  induction f with
  | zero => intro a; exact Nat.zero_le _
  | succ f ih =>
    intro a
    unfold rns
    split
    · omega
    · split
      · omega
      · have := ih (a + nx s a)
        have := nx_le s a (by assumption)
        omega
/-- Where the longest beginning of at most so many bytes ends. -/
def cutP (s : ByteArray) (most : Int) : Nat → Nat → Nat
  | 0, a => a
  | f + 1, a => if s.size ≤ a ∨ nx s a = 0 ∨ most < (a : Int) + nx s a then a else cutP s most f (a + nx s a)
theorem cutP_end {s : ByteArray} {most : Int} {f a : Nat} (h : s.size ≤ a ∨ nx s a = 0 ∨ most < (a : Int) + nx s a) : cutP s most f a = a := by
  cases f with
  | zero => rfl
  | succ f => unfold cutP; rw [if_pos h]
theorem cutP_step {s : ByteArray} {most : Int} {f a : Nat} (h : a < s.size) (hf : s.size ≤ a + f) (hn : nx s a ≠ 0) (hm : (a : Int) + nx s a ≤ most) : cutP s most f a = cutP s most (f - 1) (a + nx s a) := by
  obtain ⟨g, rfl⟩ : ∃ g, f = g + 1 := ⟨f - 1, by omega⟩
  conv => lhs; unfold cutP
  rw [if_neg (by rintro (h1 | h1 | h1); omega; exact hn h1; omega)]
  rfl
theorem cutP_le (s : ByteArray) (most : Int) : ∀ (f a : Nat), a ≤ s.size → cutP s most f a ≤ s.size := by
  intro f
  induction f with
  | zero => intro a h; exact h
  | succ f ih =>
    intro a h
    unfold cutP
    split
    · exact h
    · rename_i hc
      exact ih _ (nx_le s a (fun h0 => hc (.inr (.inl h0))))
/-- The longest beginning of a text of at most so many bytes. -/
def cutS (s : ByteArray) (most : Int) : ByteArray := s.extract 0 (cutP s most s.size 0)
theorem ext_ext (s : ByteArray) (a n : Nat) : (s.extract a s.size).extract n (s.size - a) = s.extract (a + n) s.size := by
  apply ByteArray.ext
  simp only [ByteArray.data_extract, Array.extract_extract]
  congr 1
  omega
theorem str_some {s : ByteArray} {a : Nat} (h : a < s.size) : (s.extract a s.size).toList.isEmpty = false := by
  rw [ByteArray.toList_eq, List.isEmpty_eq_false_iff]
  intro hc
  have := congrArg List.length hc
  simp at this
  omega
theorem str_none {s : ByteArray} {a : Nat} (h : s.size ≤ a) : (s.extract a s.size).toList.isEmpty = true := by
  rw [ByteArray.toList_eq, List.isEmpty_iff]
  apply List.eq_nil_of_length_eq_zero
  simp
  omega
end Go.Proofs.YtifbkfkieppacaaDoor.Pl
