/- Plain facts about numbers of one, two or four bytes; no program in sight. -/
import Derived.Test.YtifbkfkieppacaaDoorAux
namespace Go.Proofs.YtifbkfkieppacaaDoor.Pl
open Go.PlainAid (bt bt_nonneg bt_le get_bt bt_end)

/-- The lowest r bytes of a number, the highest first. -/
def fb : Nat → Int → List UInt8
  | 0, _ => []
  | r + 1, n => by8 (n / 256 ^ r) :: fb r n
theorem fb_length (r : Nat) (n : Int) : (fb r n).length = r := by
  induction r with
  | zero => rfl
  | succ r ih => simp [fb, ih]
theorem by8_mod (n : Int) : by8 (n % 256) = by8 n := by unfold by8; rw [Int.emod_emod_of_dvd n (Int.dvd_refl 256)]
/-- One, two or four bytes. -/
def Wide (w : Int) : Prop := w = 1 ∨ w = 2 ∨ w = 4
instance (w : Int) : Decidable (Wide w) := by unfold Wide; infer_instance
def fixC (w n : Int) : Int := if ¬ Wide w then 128 else if n < 0 ∨ 256 ^ w.toNat ≤ n then 129 else 0
def fixS (w n : Int) : List UInt8 := if fixC w n = 0 then fb w.toNat n else []
theorem fixC_bd (w n : Int) : 0 ≤ fixC w n ∧ fixC w n ≤ 129 := by
  unfold fixC
  repeat' split
  all_goals omega
theorem fix_bad {w n : Int} (h : ¬ Wide w) : fixC w n = 128 ∧ fixS w n = [] := by
  have h1 : fixC w n = 128 := by unfold fixC; rw [if_pos h]
  exact ⟨h1, by unfold fixS; rw [h1]; rfl⟩
theorem fix_out {w n : Int} (h : Wide w) (hn : n < 0 ∨ 256 ^ w.toNat ≤ n) : fixC w n = 129 ∧ fixS w n = [] := by
  have h1 : fixC w n = 129 := by unfold fixC; rw [if_neg (not_not_intro h), if_pos hn]
  exact ⟨h1, by unfold fixS; rw [h1]; rfl⟩
theorem fix_in {w n : Int} (h : Wide w) (h0 : 0 ≤ n) (h1 : n < 256 ^ w.toNat) : fixC w n = 0 ∧ fixS w n = fb w.toNat n := by
  have h2 : fixC w n = 0 := by unfold fixC; rw [if_neg (not_not_intro h), if_neg (by omega)]
  exact ⟨h2, by unfold fixS; rw [h2]; rfl⟩

/-- The number of the first k bytes at a place. -/
def gv (s : ByteArray) (a : Nat) : Nat → Int
  | 0 => 0
  | k + 1 => gv s a k * 256 + bt s (a + k)
theorem gv_bd (s : ByteArray) (a : Nat) : ∀ k, 0 ≤ gv s a k ∧ gv s a k < 256 ^ k
  | 0 => ⟨Int.le_refl _, by show (0 : Int) < 1; decide⟩
  | k + 1 => by
    have ⟨h0, h1⟩ := gv_bd s a k
    have hb0 := bt_nonneg s (a + k)
    have hb1 := bt_le s (a + k)
    simp only [gv, Int.pow_succ]
    omega
theorem gv_bd3 (s : ByteArray) (a k : Nat) (h : k ≤ 3) : gv s a k < 16777216 := by
  have ⟨_, h1⟩ := gv_bd s a k
  obtain rfl | rfl | rfl | rfl : k = 0 ∨ k = 1 ∨ k = 2 ∨ k = 3 := by omega
  all_goals (simp at h1; omega)
/-- The number of so many bytes at a place: the number, the place behind it, the code. -/
def getF (s : ByteArray) (at_ w : Int) : Int × Int × Int :=
  if ¬ Wide w ∨ at_ < 0 ∨ (s.size : Int) < at_ then (0, 0, 128) else if (s.size : Int) - at_ < w then (0, 0, 242) else (gv s at_.toNat w.toNat, at_ + w, 0)
theorem getF_bad {s : ByteArray} {at_ w : Int} (h : ¬ Wide w ∨ at_ < 0 ∨ (s.size : Int) < at_) : getF s at_ w = (0, 0, 128) := by unfold getF; rw [if_pos h]
theorem getF_none {s : ByteArray} {at_ w : Int} (h : ¬ (¬ Wide w ∨ at_ < 0 ∨ (s.size : Int) < at_)) (h2 : (s.size : Int) - at_ < w) : getF s at_ w = (0, 0, 242) := by unfold getF; rw [if_neg h, if_pos h2]
theorem getF_ok {s : ByteArray} {a : Nat} {w : Int} (h : Wide w) (h2 : (a : Int) + w ≤ s.size) : getF s a w = (gv s a w.toNat, a + w, 0) := by
  unfold getF
  have : 0 < w := by unfold Wide at h; omega
  rw [if_neg (by rintro (h3 | h3 | h3); exact h3 h; omega; omega), if_neg (by omega)]
  rfl
theorem getF_code (s : ByteArray) (at_ w : Int) : 0 ≤ (getF s at_ w).2.2 ∧ (getF s at_ w).2.2 ≤ 242 := by
  unfold getF
  repeat' split
  all_goals exact ⟨by simp, by simp⟩
theorem fx_div {m n : Int} {k : Nat} (h : m = n / 256 ^ k) : m / 256 = n / 256 ^ (k + 1) := by
  rw [h, Int.pow_succ, Int.ediv_ediv_of_nonneg (Int.pow_nonneg (by decide))]
theorem fx_cons {m n : Int} {k : Nat} {l : List UInt8} (h : m = n / 256 ^ k) (hl : l = fb k n) : by8 (m % 256) :: l = fb (k + 1) n := by
  rw [by8_mod, h, hl]
  rfl
end Go.Proofs.YtifbkfkieppacaaDoor.Pl
