/- Plain facts about variable byte integers: sizes, bytes, reading; no program in sight. -/
import Derived.Test.YtifbkfkieppacaaDoorAux
namespace Go.Proofs.YtifbkfkieppacaaDoor.Pl

/-- How many bytes a number takes; 0: none. -/
def sz (n : Int) : Int := if n < 0 ∨ 268435455 < n then 0 else if n < 128 then 1 else if n < 16384 then 2 else if n < 2097152 then 3 else 4

theorem sz_bad {n : Int} (h : n < 0 ∨ 268435455 < n) : sz n = 0 := by unfold sz; rw [if_pos h]
theorem sz_1 {n : Int} (h0 : 0 ≤ n) (h : n < 128) : sz n = 1 := by unfold sz; rw [if_neg (by omega), if_pos h]
theorem sz_2 {n : Int} (h0 : 128 ≤ n) (h : n < 16384) : sz n = 2 := by unfold sz; rw [if_neg (by omega), if_neg (by omega), if_pos h]
theorem sz_3 {n : Int} (h0 : 16384 ≤ n) (h : n < 2097152) : sz n = 3 := by unfold sz; rw [if_neg (by omega), if_neg (by omega), if_neg (by omega), if_pos h]
theorem sz_4 {n : Int} (h0 : 2097152 ≤ n) (h : n ≤ 268435455) : sz n = 4 := by unfold sz; rw [if_neg (by omega), if_neg (by omega), if_neg (by omega), if_neg (by omega)]
theorem sz_div {n : Int} (h0 : 128 ≤ n) (h : n ≤ 268435455) : sz n = sz (n / 128) + 1 := by
  by_cases h1 : n < 16384
  · rw [sz_2 h0 h1, sz_1 (by omega) (by omega)]; rfl
  · by_cases h2 : n < 2097152
    · rw [sz_3 (by omega) h2, sz_2 (by omega) (by omega)]; rfl
    · rw [sz_4 (by omega) h, sz_3 (by omega) (by omega)]; rfl
theorem sz_pos {n : Int} (h0 : 0 ≤ n) (h : n ≤ 268435455) : 1 ≤ sz n ∧ sz n ≤ 4 := by
  unfold sz
  rw [if_neg (by omega)]
  repeat' split
  all_goals omega
theorem sz_room {n m k : Int} (h : sz n = sz m + k - 1) (hd : sz m = sz (m / 128) + 1) (h0 : 0 ≤ n) (h1 : n ≤ 268435455) (m0 : 0 ≤ m / 128) (m1 : m / 128 ≤ 268435455) : k ≤ 3 := by
  have a := sz_pos h0 h1
  have b := sz_pos m0 m1
  omega

/-- r bytes of a number, the lowest seven bits first. -/
def vb : Int → Nat → List UInt8
  | _, 0 => []
  | n, 1 => [by8 (n % 128)]
  | n, r + 2 => by8 (n % 128 + 128) :: vb (n / 128) (r + 1)
/-- A number's bytes. -/
def enc (n : Int) : List UInt8 := vb n (sz n).toNat
theorem vb_length (r : Nat) : ∀ n, (vb n r).length = r := by
  induction r with
  | zero => intro n; rfl
  | succ r ih =>
    intro n
    cases r with
    | zero => rfl
    | succ r => simp [vb, ih]
theorem enc_length (n : Int) : (enc n).length = (sz n).toNat := vb_length _ _
theorem vb_last (n : Int) : vb n 1 = [by8 (n % 128)] := rfl
theorem vb_more (n : Int) (r : Nat) (h : 2 ≤ r) : vb n r = by8 (n % 128 + 128) :: vb (n / 128) (r - 1) := by
  obtain ⟨q, rfl⟩ : ∃ q, r = q + 2 := ⟨r - 2, by omega⟩
  rfl
theorem vb_step {n z x : Int} {l e : List UInt8} {k : Nat} (hv : l ++ vb (n / 128 ^ k) (z.toNat - k) = e) (hx : x = n / 128 ^ k % 128) (hz : (k : Int) + 1 < z) :
    (l ++ [by8 (x + 128)]) ++ vb (n / 128 ^ (k + 1)) (z.toNat - (k + 1)) = e := by
  rw [← hv, vb_more (n / 128 ^ k) (z.toNat - k) (by omega), hx, Int.pow_succ, ← Int.ediv_ediv_of_nonneg (Int.pow_nonneg (by decide)), Nat.sub_add_eq]
  simp
theorem vb_stop {n z x : Int} {l e : List UInt8} {k : Nat} (hv : l ++ vb (n / 128 ^ k) (z.toNat - k) = e) (hx : x = n / 128 ^ k % 128) (hz : (k : Int) + 1 = z) :
    (l ++ [by8 x]) ++ vb (n / 128 ^ (k + 1)) (z.toNat - (k + 1)) = e := by
  rw [← hv, show z.toNat - k = 1 from by omega, show z.toNat - (k + 1) = 0 from by omega, vb_last, hx]
  simp [vb]
theorem vm_step {m z : Int} {l e : List UInt8} {k : Nat} (hv : l ++ vb m (z.toNat - k) = e) (hz : (k : Int) + 1 < z) : (l ++ [by8 (m % 128 + 128)]) ++ vb (m / 128) (z.toNat - (k + 1)) = e := by
  rw [← hv, vb_more m (z.toNat - k) (by omega), Nat.sub_add_eq]
  simp
theorem vm_stop {m z : Int} {l e : List UInt8} {k : Nat} (hv : l ++ vb m (z.toNat - k) = e) (hz : (k : Int) + 1 = z) : (l ++ [by8 (m % 128)]) ++ vb (m / 128) (z.toNat - (k + 1)) = e := by
  rw [← hv, show z.toNat - k = 1 from by omega, show z.toNat - (k + 1) = 0 from by omega, vb_last]
  simp [vb]

/-! Reading: at round k the number n has been gathered; the byte at a stands next. -/
open Go.PlainAid (bt bt_nonneg bt_le get_bt bt_end)
def gi (s : ByteArray) : Nat → Nat → Int → Nat → Int × Int × Int
  | 0, _, _, _ => (0, 0, 129)
  | f + 1, k, n, a =>
    if s.size ≤ a then (0, 0, 242) else if bt s a < 128 then (if 0 < k ∧ bt s a = 0 then (0, 0, 129) else (n + bt s a * 128 ^ k, (a : Int) + 1, 0))
    else gi s f (k + 1) (n + bt s a % 128 * 128 ^ k) (a + 1)
/-- The number at a place: the number, the place behind it, the code. -/
def getV (s : ByteArray) (at_ : Int) : Int × Int × Int := if at_ < 0 ∨ (s.size : Int) < at_ then (0, 0, 128) else gi s 4 0 0 at_.toNat
theorem getV_bad {s : ByteArray} {at_ : Int} (h : at_ < 0 ∨ (s.size : Int) < at_) : getV s at_ = (0, 0, 128) := by unfold getV; rw [if_pos h]
theorem getV_ok {s : ByteArray} {a : Nat} (h : a ≤ s.size) : getV s a = gi s 4 0 0 a := by unfold getV; rw [if_neg (by omega)]; rfl
theorem gi_end {s : ByteArray} {f k a : Nat} {n : Int} (h : s.size ≤ a) : gi s (f + 1) k n a = (0, 0, 242) := by unfold gi; rw [if_pos h]
theorem gi_last {s : ByteArray} {f k a : Nat} {n : Int} (h : ¬ s.size ≤ a) (hb : bt s a < 128) (hk : ¬ (0 < k ∧ bt s a = 0)) : gi s (f + 1) k n a = (n + bt s a * 128 ^ k, (a : Int) + 1, 0) := by
  unfold gi; rw [if_neg h, if_pos hb, if_neg hk]
theorem gi_long {s : ByteArray} {f k a : Nat} {n : Int} (h : ¬ s.size ≤ a) (hb : bt s a < 128) (hk : 0 < k ∧ bt s a = 0) : gi s (f + 1) k n a = (0, 0, 129) := by
  unfold gi; rw [if_neg h, if_pos hb, if_pos hk]
theorem gi_more {s : ByteArray} {f k a : Nat} {n : Int} (h : ¬ s.size ≤ a) (hb : 128 ≤ bt s a) : gi s (f + 1) k n a = gi s f (k + 1) (n + bt s a % 128 * 128 ^ k) (a + 1) := by
  conv => lhs; unfold gi
  rw [if_neg h, if_neg (by omega)]
theorem gi_zero {s : ByteArray} {k a : Nat} {n : Int} : gi s 0 k n a = (0, 0, 129) := rfl
theorem sz_small {n : Int} {k : Nat} (h0 : 0 ≤ n) (h1 : n < 128 ^ k) (hk : 1 ≤ k ∧ k ≤ 3) : sz n ≤ k := by
  obtain rfl | rfl | rfl : k = 1 ∨ k = 2 ∨ k = 3 := by omega
  all_goals (simp at h1; unfold sz; rw [if_neg (by omega)]; repeat' split) <;> omega
theorem sz_exact {n : Int} {k : Nat} (h0 : 0 ≤ n) (h1 : n < 128 ^ (k + 1)) (h2 : k = 0 ∨ 128 ^ k ≤ n) (hk : k ≤ 3) : sz n = k + 1 := by
  obtain rfl | rfl | rfl | rfl : k = 0 ∨ k = 1 ∨ k = 2 ∨ k = 3 := by omega
  all_goals (simp at h1 h2; unfold sz; rw [if_neg (by omega)]; repeat' split) <;> omega
theorem gi_code (s : ByteArray) : ∀ (f k : Nat) (n : Int) (a : Nat), 0 ≤ (gi s f k n a).2.2 ∧ (gi s f k n a).2.2 ≤ 242 := by
  intro f
  induction f with
  | zero => intro k n a; rw [gi_zero]; exact ⟨by decide, by decide⟩
  | succ f ih =>
    intro k n a
    unfold gi
    repeat' split
    all_goals first | exact ih _ _ _ | exact ⟨by simp, by simp⟩
theorem getV_code (s : ByteArray) (at_ : Int) : 0 ≤ (getV s at_).2.2 ∧ (getV s at_).2.2 ≤ 242 := by
  unfold getV
  split
  · exact ⟨by decide, by decide⟩
  · exact gi_code _ _ _ _ _
end Go.Proofs.YtifbkfkieppacaaDoor.Pl
