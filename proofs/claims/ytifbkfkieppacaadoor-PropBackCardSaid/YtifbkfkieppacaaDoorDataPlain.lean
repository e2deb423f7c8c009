/- Plain facts about data; no program in sight. -/
import Derived.Test.YtifbkfkieppacaaDoorFixPlain
namespace Go.Proofs.YtifbkfkieppacaaDoor.Pl
open Go.PlainAid (bt bt_nonneg bt_le get_bt bt_end)

def dataC (s : ByteArray) : Int := if 65535 < s.size then 149 else 0
def dataS (s : ByteArray) : ByteArray := if 65535 < s.size then ⟨#[]⟩ else ⟨(fixS 2 s.size).toArray⟩ ++ s
theorem data_big {s : ByteArray} (h : 65535 < s.size) : dataC s = 149 ∧ dataS s = ⟨#[]⟩ := by unfold dataC dataS; rw [if_pos h, if_pos h]; exact ⟨rfl, rfl⟩
theorem data_ok {s : ByteArray} (h : ¬ 65535 < s.size) : dataC s = 0 ∧ dataS s = ⟨(fixS 2 s.size).toArray⟩ ++ s := by unfold dataC dataS; rw [if_neg h, if_neg h]; exact ⟨rfl, rfl⟩
theorem dataC_bd (s : ByteArray) : 0 ≤ dataC s ∧ dataC s ≤ 149 := by
  unfold dataC
  split
  all_goals omega
theorem fixS_len (d n : Int) : (fixS d n).length ≤ d.toNat := by
  unfold fixS
  split
  · rw [fb_length]; omega
  · simp
/-- The data at a place: the data, the place behind it, the code. -/
def getD (s : ByteArray) (at_ : Int) : ByteArray × Int × Int :=
  if (getF s at_ 2).2.2 ≠ 0 then (⟨#[]⟩, 0, (getF s at_ 2).2.2)
  else if (s.size : Int) - (getF s at_ 2).2.1 < (getF s at_ 2).1 then (⟨#[]⟩, 0, 242)
  else (s.extract (getF s at_ 2).2.1.toNat ((getF s at_ 2).2.1 + (getF s at_ 2).1).toNat, (getF s at_ 2).2.1 + (getF s at_ 2).1, 0)
/-- What may come of the two bytes ahead. -/
theorem getF_two (s : ByteArray) (at_ : Int) : (getF s at_ 2 = (0, 0, 128)) ∨ (getF s at_ 2 = (0, 0, 242)) ∨ ∃ a m : Nat, at_ = a ∧ getF s at_ 2 = ((m : Int), ((a + 2 : Nat) : Int), 0) ∧ m < 65536 ∧ a + 2 ≤ s.size := by
  by_cases h : ¬ Wide 2 ∨ at_ < 0 ∨ (s.size : Int) < at_
  · exact .inl (getF_bad h)
  · by_cases h2 : (s.size : Int) - at_ < 2
    · exact .inr (.inl (getF_none h h2))
    · have h0 : 0 ≤ at_ := by
        by_cases h3 : at_ < 0
        · exact absurd (.inr (.inl h3)) h
        · omega
      obtain ⟨a, rfl⟩ := Int.eq_ofNat_of_zero_le h0
      have hb := gv_bd s a 2
      obtain ⟨m, hm⟩ := Int.eq_ofNat_of_zero_le hb.1
      refine .inr (.inr ⟨a, m, rfl, ?_, ?_, by omega⟩)
      · rw [getF_ok (.inr (.inl rfl)) (by omega)]
        show (gv s a 2, (a : Int) + 2, (0 : Int)) = _
        rw [hm]
        simp
      · have := hb.2
        rw [hm] at this
        simp at this
        omega
theorem getD_code {s : ByteArray} {at_ n f c : Int} (h : getF s at_ 2 = (n, f, c)) (hc : c ≠ 0) : getD s at_ = (⟨#[]⟩, 0, c) := by unfold getD; rw [h]; simp [hc]
theorem getD_none {s : ByteArray} {at_ n f : Int} (h : getF s at_ 2 = (n, f, 0)) (hn : (s.size : Int) - f < n) : getD s at_ = (⟨#[]⟩, 0, 242) := by unfold getD; rw [h]; simp [hn]
theorem getD_ok {s : ByteArray} {at_ : Int} {m f : Nat} (h : getF s at_ 2 = ((m : Int), (f : Int), 0)) (hn : f + m ≤ s.size) : getD s at_ = (s.extract f (f + m), (f : Int) + m, 0) := by
  unfold getD
  rw [h]
  have : ¬ ((s.size : Int) - f < m) := by omega
  simp only [ne_eq, not_true_eq_false, if_false, this]
  congr 2
theorem getD_codes (s : ByteArray) (at_ : Int) : 0 ≤ (getD s at_).2.2 ∧ (getD s at_).2.2 ≤ 242 := by
  have h := getF_code s at_ 2
  unfold getD
  repeat' split
  all_goals first | exact h | exact ⟨by simp, by simp⟩
end Go.Proofs.YtifbkfkieppacaaDoor.Pl
