/- Plain facts about variable byte integers: sizes, bytes, reading; no program in sight. -/
import Derived.WalkKit
import Derived.PlainAid
namespace Go.Proofs.Ytoojgcblgmipeaa.Pl

/-- How many bytes a number takes; 0: none. -/
def sz (n : Int) : Int := if n < 0 ∨ 268435455 < n then 0 else if n < 128 then 1 else if n < 16384 then 2 else if n < 2097152 then 3 else 4

theorem sz_bad {n : Int} (h : n < 0 ∨ 268435455 < n) : sz n = 0 := by unfold sz; rw [if_pos h]
theorem sz_1 {n : Int} (h0 : 0 ≤ n) (h : n < 128) : sz n = 1 := by unfold sz; rw [if_neg (by omega), if_pos h]
theorem sz_2 {n : Int} (h0 : 128 ≤ n) (h : n < 16384) : sz n = 2 := by unfold sz; rw [if_neg (by omega), if_neg (by omega), if_pos h]
theorem sz_3 {n : Int} (h0 : 16384 ≤ n) (h : n < 2097152) : sz n = 3 := by unfold sz; rw [if_neg (by omega), if_neg (by omega), if_neg (by omega), if_pos h]
theorem sz_4 {n : Int} (h0 : 2097152 ≤ n) (h : n ≤ 268435455) : sz n = 4 := by unfold sz; rw [if_neg (by omega), if_neg (by omega), if_neg (by omega), if_neg (by omega)]
theorem sz_div {n : Int} (h0 : 128 ≤ n) (h : n ≤ 268435455) : sz n = sz (n / 128) + 1 := by
  by_cases h1 : n < 16384
  · rw [sz_2 h0 h1, sz_1 (by omega) (by omega)]; rfl
  · by_cases h2 : n < 2097152
    · rw [sz_3 (by omega) h2, sz_2 (by omega) (by omega)]; rfl
    · rw [sz_4 (by omega) h, sz_3 (by omega) (by omega)]; rfl
theorem sz_pos {n : Int} (h0 : 0 ≤ n) (h : n ≤ 268435455) : 1 ≤ sz n ∧ sz n ≤ 4 := by
  unfold sz
  rw [if_neg (by omega)]
  repeat' split
  all_goals omega
theorem sz_room {n m k : Int} (h : sz n = sz m + k - 1) (hd : sz m = sz (m / 128) + 1) (h0 : 0 ≤ n) (h1 : n ≤ 268435455) (m0 : 0 ≤ m / 128) (m1 : m / 128 ≤ 268435455) : k ≤ 3 := by
  have a := sz_pos h0 h1
  have b := sz_pos m0 m1
  omega
end Go.Proofs.Ytoojgcblgmipeaa.Pl
