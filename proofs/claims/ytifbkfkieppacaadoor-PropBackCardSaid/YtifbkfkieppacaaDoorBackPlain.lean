/- Plain facts: a number is read back from its bytes; bytes that are read are just its bytes. -/
import Derived.Test.YtifbkfkieppacaaDoorVarPlain
namespace Go.Proofs.YtifbkfkieppacaaDoor.Pl
open Go.PlainAid (bt bt_nonneg bt_le get_bt bt_end)

theorem bt_list (l : List UInt8) (k : Nat) (h : k < l.length) : bt ⟨l.toArray⟩ k = ((l[k]).toNat : Int) := by
  unfold bt
  have h' : k < (⟨l.toArray⟩ : ByteArray).size := by simpa [ByteArray.size] using h
  rw [dif_pos h']
  rfl
/-- The bytes of n, written at place a with r of them left, are read as n on top of what has been gathered. -/
theorem gi_vb (s : ByteArray) : ∀ (r f k a : Nat) (n m : Int), 1 ≤ r → r ≤ f → 0 ≤ n → n < 128 ^ r → (1 < r ∨ 0 < k → 128 ^ (r - 1) ≤ n) →
    (∀ j (h : j < (vb n r).length), bt s (a + j) = (((vb n r)[j]).toNat : Int)) → a + r ≤ s.size →
    gi s f k m a = (m + n * 128 ^ k, ((a + r : Nat) : Int), 0) := by
  intro r
  induction r with
  | zero => intro f k a n m h; omega
  | succ r ih =>
    intro f k a n m _ hf h0 h1 hmin hb ha
    obtain ⟨f, rfl⟩ : ∃ g, f = g + 1 := ⟨f - 1, by omega⟩
    cases r with
    | zero =>
      have hb0 := hb 0 (by simp [vb])
      simp only [vb, List.getElem_cons_zero, by8_toNat, Nat.add_zero] at hb0
      simp at h1
      rw [show n % 128 % 256 = n from by omega] at hb0
      rw [gi_last (by omega) (by omega) (by rw [hb0]; rintro ⟨h2, h3⟩; have := hmin (.inr h2); simp at this; omega), hb0]
      simp
    | succ r =>
      have hb0 := hb 0 (by simp [vb])
      simp only [vb, List.getElem_cons_zero, by8_toNat, Nat.add_zero] at hb0
      rw [show (n % 128 + 128) % 256 = n % 128 + 128 from by omega] at hb0
      rw [gi_more (by omega) (by omega), hb0]
      have hp : (128 : Int) ^ (r + 1 + 1) = 128 ^ (r + 1) * 128 := Int.pow_succ _ _
      have hp2 : (128 : Int) ^ (r + 1) = 128 ^ r * 128 := Int.pow_succ _ _
      have h128 : (128 : Int) ^ (r + 1) ≤ n := hmin (.inl (by omega))
      rw [ih f (k + 1) (a + 1) (n / 128) _ (by omega) (by omega) (by omega) (by rw [hp] at h1; omega) (fun _ => by simp only [Nat.add_sub_cancel]; rw [hp2] at h128; omega) ?_ (by omega)]
      · have hk : (128 : Int) ^ (k + 1) = 128 ^ k * 128 := Int.pow_succ _ _
        congr 1
        · rw [hk, show (n % 128 + 128) % 128 = n % 128 from by omega]
          have : n % 128 + 128 * (n / 128) = n := by omega
          calc m + n % 128 * 128 ^ k + n / 128 * (128 ^ k * 128) = m + (n % 128 + 128 * (n / 128)) * 128 ^ k := by rw [Int.add_mul]; simp only [Int.mul_comm, Int.mul_left_comm, Int.mul_assoc, Int.add_assoc]
            _ = m + n * 128 ^ k := by rw [this]
        · congr 1
          omega
      · intro j hj
        have := hb (j + 1) (by simp only [vb, List.length_cons]; omega)
        simp only [vb, List.getElem_cons_succ] at this
        rw [show a + 1 + j = a + (j + 1) from by omega]
        exact this

theorem by8_bt (s : ByteArray) {a : Nat} (h : a < s.size) : by8 (bt s a) = s[a] := by
  have e := get_bt s a h
  rw [← e]
  unfold by8
  have := (s[a]).toNat_lt
  apply UInt8.toNat.inj
  rw [UInt8.toNat_ofNat']
  omega

/-- What is read stands there in its bytes. -/
theorem gi_back (s : ByteArray) : ∀ (f k a : Nat) (m v e : Int), gi s f k m a = (v, e, 0) →
    ∃ (r : Nat) (n : Int), 1 ≤ r ∧ r ≤ f ∧ v = m + n * 128 ^ k ∧ 0 ≤ n ∧ n < 128 ^ r ∧ (1 < r ∨ 0 < k → 128 ^ (r - 1) ≤ n) ∧ e = ((a + r : Nat) : Int) ∧ a + r ≤ s.size ∧
      ∀ j (h : j < (vb n r).length) (h2 : a + j < s.size), (vb n r)[j] = s[a + j] := by
  intro f
  induction f with
  | zero => intro k a m v e h; rw [gi_zero] at h; injection h with _ h; injection h with _ h; exact absurd h (by decide)
  | succ f ih =>
    intro k a m v e h
    have hb0 := bt_nonneg s a
    have hb1 := bt_le s a
    by_cases he : s.size ≤ a
    · rw [gi_end he] at h; injection h with _ h; injection h with _ h; exact absurd h (by decide)
    · by_cases hl : bt s a < 128
      · by_cases hk : 0 < k ∧ bt s a = 0
        · rw [gi_long he hl hk] at h; injection h with _ h; injection h with _ h; exact absurd h (by decide)
        · rw [gi_last he hl hk] at h
          injection h with h1 h
          injection h with h2 _
          refine ⟨1, bt s a, by omega, by omega, h1.symm, hb0, by simpa using hl, fun hc => ?_, by omega, by omega, ?_⟩
          · simp
            rcases hc with hc | hc
            · omega
            · have : bt s a ≠ 0 := fun h0 => hk ⟨hc, h0⟩
              omega
          · intro j hj h2
            obtain rfl : j = 0 := by simp [vb] at hj; omega
            simp only [vb, List.getElem_cons_zero, Nat.add_zero]
            rw [show bt s a % 128 = bt s a from by omega]
            exact by8_bt s (by omega)
      · rw [gi_more he (by omega)] at h
        obtain ⟨r, n, hr1, hrf, hv, hn0, hn1, hmin, hee, hsz, hby⟩ := ih (k + 1) (a + 1) _ v e h
        obtain ⟨q, rfl⟩ : ∃ q, r = q + 1 := ⟨r - 1, by omega⟩
        have hq : (128 : Int) ^ q ≤ n := hmin (.inr (by omega))
        have hp : (128 : Int) ^ (q + 1) = 128 ^ q * 128 := Int.pow_succ _ _
        have hp2 : (128 : Int) ^ (q + 1 + 1) = 128 ^ (q + 1) * 128 := Int.pow_succ _ _
        have hk : (128 : Int) ^ (k + 1) = 128 ^ k * 128 := Int.pow_succ _ _
        have hdiv : (bt s a % 128 + 128 * n) / 128 = n := by omega
        have hmod : (bt s a % 128 + 128 * n) % 128 = bt s a % 128 := by omega
        refine ⟨q + 1 + 1, bt s a % 128 + 128 * n, by omega, by omega, ?_, by omega, by rw [hp2]; omega, fun _ => by simp only [Nat.add_sub_cancel]; rw [hp]; omega, by omega, by omega, ?_⟩
        · rw [hv, hk, Int.add_mul]
          simp only [Int.mul_comm, Int.mul_assoc, Int.add_assoc]
        · intro j hj h2
          cases j with
          | zero =>
            simp only [vb, List.getElem_cons_zero, Nat.add_zero]
            rw [hmod, show bt s a % 128 + 128 = bt s a from by omega]
            exact by8_bt s (by omega)
          | succ j =>
            simp only [vb, List.getElem_cons_succ]
            have hl2 : j < (vb n (q + 1)).length := by rw [vb_length]; rw [vb_length] at hj; omega
            have h3 := hby j hl2 (by omega)
            have e1 : (vb ((bt s a % 128 + 128 * n) / 128) (q + 1)) = vb n (q + 1) := by rw [hdiv]
            have e2 : ∀ (l l' : List UInt8) (hl : j < l.length) (hll : l = l'), l[j] = l'[j]'(hll ▸ hl) := by intro l l' hl hll; subst hll; rfl
            rw [e2 _ _ _ e1, h3]
            congr 1
            omega

/-- A number is read back from its bytes. -/
theorem get_enc {n : Int} (h0 : 0 ≤ n) (h1 : n ≤ 268435455) : getV ⟨(enc n).toArray⟩ 0 = (n, sz n, 0) := by
  have hp := sz_pos h0 h1
  have hl : (⟨(enc n).toArray⟩ : ByteArray).size = (sz n).toNat := by simp [ByteArray.size, enc_length]
  obtain ⟨r, hr⟩ : ∃ r : Nat, sz n = r + 1 := ⟨(sz n - 1).toNat, by omega⟩
  have hr0 := hr
  have hlt : n < 128 ^ (r + 1) ∧ (0 < r → 128 ^ r ≤ n) := by
    obtain rfl | rfl | rfl | rfl : r = 0 ∨ r = 1 ∨ r = 2 ∨ r = 3 := by omega
    all_goals
      unfold sz at hr
      rw [if_neg (by omega)] at hr
      refine ⟨?_, ?_⟩
      all_goals simp
      all_goals (repeat' split at hr)
      all_goals omega
  have he : enc n = vb n (r + 1) := by unfold enc; rw [hr]; rfl
  have := gi_vb ⟨(enc n).toArray⟩ (r + 1) 4 0 0 n 0 (by omega) (by omega) h0 hlt.1 (fun hc => by simp only [Nat.add_sub_cancel]; exact hlt.2 (by omega)) (fun j hj => by
    rw [Nat.zero_add]
    have hj2 : j < (enc n).length := by rw [he]; exact hj
    rw [bt_list _ _ hj2]
    congr 2
    have e2 : ∀ (l l' : List UInt8) (hl : j < l.length) (hll : l = l'), l[j] = l'[j]'(hll ▸ hl) := by intro l l' hl hll; subst hll; rfl
    exact e2 _ _ _ he) (by rw [hl, hr]; omega)
  rw [show (0 : Int) = ((0 : Nat) : Int) from rfl, getV_ok (by omega), this, hr]
  simp

/-- What is read stands there in its bytes. -/
theorem enc_get {s : ByteArray} {v e : Int} (h : getV s 0 = (v, e, 0)) : 0 ≤ v ∧ v ≤ 268435455 ∧ ∃ k : Nat, e = k ∧ k ≤ s.size ∧ s.extract 0 k = ⟨(enc v).toArray⟩ := by
  rw [show (0 : Int) = ((0 : Nat) : Int) from rfl, getV_ok (by omega)] at h
  obtain ⟨r, n, hr1, hr4, hv, hn0, hn1, hmin, he, hsz, hby⟩ := gi_back s 4 0 0 0 v e h
  obtain rfl : v = n := by rw [hv]; simp
  have hmax : v ≤ 268435455 := by
    obtain rfl | rfl | rfl | rfl : r = 1 ∨ r = 2 ∨ r = 3 ∨ r = 4 := by omega
    all_goals (simp at hn1; omega)
  have hz : sz v = r := by
    have := sz_exact (n := v) (k := r - 1) hn0 (by rw [show r - 1 + 1 = r from by omega]; exact hn1) (by by_cases h1 : r = 1; exact .inl (by omega); exact .inr (hmin (.inl (by omega)))) (by omega)
    omega
  refine ⟨hn0, hmax, r, by omega, by omega, ?_⟩
  have hen : enc v = vb v r := by unfold enc; rw [hz]; rfl
  rw [hen]
  apply ByteArray.ext
  apply Array.ext
  · simp [vb_length]; omega
  · intro i h1 h2
    have h3 : i < (vb v r).length := by simpa using h2
    have h4 : i < r := by rw [vb_length] at h3; exact h3
    have := hby i h3 (by omega)
    simp only [Nat.zero_add] at this
    simp [this]
    rfl
end Go.Proofs.YtifbkfkieppacaaDoor.Pl
