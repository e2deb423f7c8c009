/- Plain facts: the packets' bytes that bytes begin with; no program in sight. -/
import Derived.Test.YthdbkpapkheefaaBackPlain
import Derived.Laws.Strings
namespace Go.Proofs.Ythdbkpapkheefaa.Pl
open Go.PlainAid (bt bt_nonneg bt_le get_bt bt_end)

/-- The pieces that bytes are split into, what is left, and the code. -/
def splitF (most : Int) : Nat → ByteArray → List ByteArray × ByteArray × Int
  | 0, s => ([], s, 0)
  | f + 1, s =>
    if s.size = 0 then ([], s, 0)
    else if (getV s 1).2.2 = 242 then ([], s, 0)
    else if (getV s 1).2.2 ≠ 0 then ([], s, (getV s 1).2.2)
    else if most < (getV s 1).2.1 + (getV s 1).1 then ([], s, 149)
    else if (s.size : Int) < (getV s 1).2.1 + (getV s 1).1 then ([], s, 0)
    else (s.extract 0 ((getV s 1).2.1 + (getV s 1).1).toNat :: (splitF most f (s.extract ((getV s 1).2.1 + (getV s 1).1).toNat s.size)).1, (splitF most f (s.extract ((getV s 1).2.1 + (getV s 1).1).toNat s.size)).2)

/-- What a number at place 1 may be. -/
theorem get1 {s : ByteArray} {v e : Int} (hs : 1 ≤ s.size) (h : getV s 1 = (v, e, 0)) : ∃ m k : Nat, v = m ∧ e = k ∧ 2 ≤ k ∧ k ≤ 5 ∧ k ≤ s.size ∧ m ≤ 268435455 := by
  rw [show (1 : Int) = ((1 : Nat) : Int) from rfl, getV_ok (by omega)] at h
  obtain ⟨r, n, hr1, hr4, hv, hn0, hn1, hmin, he, hsz, hby⟩ := gi_back s 4 0 1 0 v e h
  obtain rfl : v = n := by rw [hv]; simp
  have hmax : v ≤ 268435455 := by
    obtain rfl | rfl | rfl | rfl : r = 1 ∨ r = 2 ∨ r = 3 ∨ r = 4 := by omega
    all_goals (simp at hn1; omega)
  exact ⟨v.toNat, 1 + r, by omega, he, by omega, by omega, hsz, by omega⟩

theorem split_end {most : Int} {f : Nat} {s : ByteArray} (h : s.size = 0) : splitF most f s = ([], s, 0) := by
  cases f with
  | zero => rfl
  | succ f => unfold splitF; rw [if_pos h]
theorem split_none {most : Int} {f : Nat} {s : ByteArray} {v e : Int} (hs : s.size ≤ f) (h0 : s.size ≠ 0) (h : getV s 1 = (v, e, 242)) : splitF most f s = ([], s, 0) := by
  obtain ⟨g, rfl⟩ : ∃ g, f = g + 1 := ⟨f - 1, by omega⟩
  unfold splitF; rw [if_neg h0, h, if_pos rfl]
theorem split_code {most : Int} {f : Nat} {s : ByteArray} {v e c : Int} (hs : s.size ≤ f) (h0 : s.size ≠ 0) (h : getV s 1 = (v, e, c)) (h1 : c ≠ 242) (h2 : c ≠ 0) : splitF most f s = ([], s, c) := by
  obtain ⟨g, rfl⟩ : ∃ g, f = g + 1 := ⟨f - 1, by omega⟩
  unfold splitF; rw [if_neg h0, h, if_neg h1, if_pos h2]
theorem split_large {most : Int} {f : Nat} {s : ByteArray} {v e : Int} (hs : s.size ≤ f) (h0 : s.size ≠ 0) (h : getV s 1 = (v, e, 0)) (h1 : most < e + v) : splitF most f s = ([], s, 149) := by
  obtain ⟨g, rfl⟩ : ∃ g, f = g + 1 := ⟨f - 1, by omega⟩
  unfold splitF; rw [if_neg h0, h]; simp [h1]
theorem split_short {most : Int} {f : Nat} {s : ByteArray} {v e : Int} (hs : s.size ≤ f) (h0 : s.size ≠ 0) (h : getV s 1 = (v, e, 0)) (h1 : ¬ most < e + v) (h2 : (s.size : Int) < e + v) : splitF most f s = ([], s, 0) := by
  obtain ⟨g, rfl⟩ : ∃ g, f = g + 1 := ⟨f - 1, by omega⟩
  unfold splitF; rw [if_neg h0, h]; simp [h1, h2]
theorem split_more {most : Int} {f : Nat} {s : ByteArray} {m k : Nat} (hs : s.size ≤ f) (h0 : s.size ≠ 0) (h : getV s 1 = ((m : Int), (k : Int), 0)) (h1 : ¬ most < (k : Int) + m) (h2 : k + m ≤ s.size) :
    splitF most f s = (s.extract 0 (k + m) :: (splitF most (f - 1) (s.extract (k + m) s.size)).1, (splitF most (f - 1) (s.extract (k + m) s.size)).2) := by
  obtain ⟨g, rfl⟩ : ∃ g, f = g + 1 := ⟨f - 1, by omega⟩
  have e : ((k : Int) + (m : Int)).toNat = k + m := by omega
  have h3 : ¬ ((s.size : Int) < (k : Int) + m) := by omega
  conv => lhs; unfold splitF
  rw [if_neg h0, h]
  simp only [ne_eq, not_true_eq_false, if_false, h1, h3, e, Nat.add_sub_cancel]
  rfl
theorem split_codes (most : Int) : ∀ (f : Nat) (s : ByteArray), 0 ≤ (splitF most f s).2.2 ∧ (splitF most f s).2.2 ≤ 242 := by
  intro f
  induction f with
  | zero => intro s; exact ⟨Int.le_refl _, by show (0 : Int) ≤ 242; decide⟩
  | succ f ih =>
    intro s
    have hc := getV_code s 1
    unfold splitF
    repeat' split
    all_goals first | exact ih _ | exact hc | exact ⟨by simp, by simp⟩
end Go.Proofs.Ythdbkpapkheefaa.Pl
