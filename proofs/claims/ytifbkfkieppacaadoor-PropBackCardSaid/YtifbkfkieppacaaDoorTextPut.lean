/- The walks of both Put and both Get functions of package text. -/
import Derived.Test.YtifbkfkieppacaaDoorFault
import Derived.Test.YtifbkfkieppacaaDoorRefFault
import Derived.Test.YtifbkfkieppacaaDoorData
namespace Go.Proofs.YtifbkfkieppacaaDoor
open Go.RowKit Pl Go.Shelf

/-- A text's code, and its bytes. -/
def tputC (s : ByteArray) : Int := if (flt s s.size 0).2 = true then 129 else dataC s
def tputS (s : ByteArray) : ByteArray := if (flt s s.size 0).2 = true then ⟨#[]⟩ else dataS s
theorem tput_bad {s : ByteArray} (h : (flt s s.size 0).2 = true) : tputC s = 129 ∧ tputS s = ⟨#[]⟩ := by unfold tputC tputS; rw [if_pos h, if_pos h]; exact ⟨rfl, rfl⟩
theorem tput_ok {s : ByteArray} (h : (flt s s.size 0).2 = false) : tputC s = dataC s ∧ tputS s = dataS s := by unfold tputC tputS; rw [if_neg (by rw [h]; simp), if_neg (by rw [h]; simp)]; exact ⟨rfl, rfl⟩
theorem tputC_bd (s : ByteArray) : 0 ≤ tputC s ∧ tputC s ≤ 149 := by
  have := dataC_bd s
  unfold tputC
  split
  all_goals omega
theorem ret_tput {k : IntKind} {s : ByteArray} {c : Int} {x : ByteArray} (h : tputC s = c ∧ tputS s = x) :
    Ending.returned (.tuple #[.string x, .int k c]) = .returned (.tuple #[.string (tputS s), .int k (tputC s)]) := by rw [h.1, h.2]
/-- The text at a place: the text, the place behind it, the code. -/
def tget (s : ByteArray) (at_ : Int) : ByteArray × Int × Int :=
  if (getD s at_).2.2 ≠ 0 then (⟨#[]⟩, 0, (getD s at_).2.2) else if (flt (getD s at_).1 (getD s at_).1.size 0).2 = true then (⟨#[]⟩, 0, 129) else getD s at_
theorem tget_code {s : ByteArray} {at_ : Int} {t : ByteArray} {f c : Int} (h : getD s at_ = (t, f, c)) (hc : c ≠ 0) : tget s at_ = (⟨#[]⟩, 0, c) := by unfold tget; rw [h]; simp [hc]
theorem tget_bad {s : ByteArray} {at_ : Int} {t : ByteArray} {f : Int} (h : getD s at_ = (t, f, 0)) (hb : (flt t t.size 0).2 = true) : tget s at_ = (⟨#[]⟩, 0, 129) := by unfold tget; rw [h]; simp [hb]
theorem tget_ok {s : ByteArray} {at_ : Int} {t : ByteArray} {f : Int} (h : getD s at_ = (t, f, 0)) (hb : (flt t t.size 0).2 = false) : tget s at_ = (t, f, 0) := by unfold tget; rw [h]; simp [hb]
theorem tget_codes (s : ByteArray) (at_ : Int) : 0 ≤ (tget s at_).2.2 ∧ (tget s at_).2.2 ≤ 242 := by
  have h := getD_codes s at_
  unfold tget
  repeat' split
  all_goals first | exact h | exact ⟨by simp, by simp⟩
/-- What is read is no longer than what it is read from. -/
theorem getD_size (s : ByteArray) (at_ : Int) : (getD s at_).1.size ≤ s.size := by
  unfold getD
  split
  · exact Nat.zero_le _
  · split
    · exact Nat.zero_le _
    · simp only [ByteArray.size_extract]
      omega

set_option maxRecDepth 100000 in
theorem tput_any (s : ByteArray) (w : World) (hs : s.size ≤ 140737488351232) (hT : Tabs w) :
    Calls Tryd.prog 32 #[.string s] w fun e w' => e = .returned (.tuple #[.string (tputS s), .int .u8 (tputC s)]) ∧ Below w.heap.size w w' := by
  obtain ⟨p, b, hf⟩ : ∃ p b, flt s s.size 0 = (p, b) := ⟨_, _, rfl⟩
  have Hf := Lib.hid hf
  clear hf
  cases b
  · have hr := Lib.hid (tput_ok (s := s) (by rw [Hf.out]))
    go_enter Tryd.func32, Tryd.ntmps32
    go_wp2_with fail
    refine (fault_any s _ (by omega) hT).mono ?_
    rintro e w1 ⟨rfl, b1⟩
    rw [Hf.out]
    go_wp2_with fail
    refine (data_all s _ hs).mono ?_
    rintro e w2 ⟨rfl, b2⟩
    go_wp2
    go_ret2
    exact ⟨ret_tput hr.out, b1.trans (b2.mono b1.size)⟩
  · have hr := Lib.hid (tput_bad (s := s) (by rw [Hf.out]))
    go_enter Tryd.func32, Tryd.ntmps32
    go_wp2_with fail
    refine (fault_any s _ (by omega) hT).mono ?_
    rintro e w1 ⟨rfl, b1⟩
    rw [Hf.out]
    go_wp2
    go_ret2
    exact ⟨ret_tput hr.out, b1⟩

set_option maxRecDepth 100000 in
theorem reftput_any (s : ByteArray) (w : World) (hs : s.size ≤ 140737488351232) :
    Calls Tryd.prog 39 #[.string s] w fun e w' => e = .returned (.tuple #[.string (tputS s), .int .i64 (tputC s)]) ∧ Below w.heap.size w w' := by
  obtain ⟨p, b, hf⟩ : ∃ p b, flt s s.size 0 = (p, b) := ⟨_, _, rfl⟩
  have Hf := Lib.hid hf
  clear hf
  cases b
  · have hr := Lib.hid (tput_ok (s := s) (by rw [Hf.out]))
    go_enter Tryd.func39, Tryd.ntmps39
    go_wp2_with fail
    refine (reffault_any s _ (by omega)).mono ?_
    rintro e w1 ⟨rfl, rfl⟩
    rw [Hf.out]
    go_wp2_with fail
    refine (refdata_all s _ hs).mono ?_
    rintro e w2 ⟨rfl, b2⟩
    go_wp2
    go_ret2
    exact ⟨ret_tput hr.out, b2⟩
  · have hr := Lib.hid (tput_bad (s := s) (by rw [Hf.out]))
    go_enter Tryd.func39, Tryd.ntmps39
    go_wp2_with fail
    refine (reffault_any s _ (by omega)).mono ?_
    rintro e w1 ⟨rfl, rfl⟩
    rw [Hf.out]
    go_wp2
    go_ret2
    exact ⟨ret_tput hr.out, Below.refl _ _⟩

set_option maxRecDepth 100000 in
theorem tget_any (s : ByteArray) (at_ : Int) (w : World) (hs : s.size ≤ 140737488351232) (h0 : -9223372036854775808 ≤ at_) (h1 : at_ ≤ 9223372036854775807) (hT : Tabs w) :
    Calls Tryd.prog 45 #[.string s, .int .i64 at_] w fun e w' => e = .returned (.tuple #[.string (tget s at_).1, .int .i64 (tget s at_).2.1, .int .u8 (tget s at_).2.2]) ∧ Below w.heap.size w w' := by
  obtain ⟨t, p, c, hg⟩ : ∃ t p c, getD s at_ = (t, p, c) := ⟨_, _, _, rfl⟩
  have Hg := Lib.hid hg
  have ht : t.size ≤ 140737488351232 := by have := getD_size s at_; rw [hg] at this; simp at this; omega
  clear hg
  by_cases hc : c = 0
  · subst hc
    obtain ⟨q, b, hf⟩ : ∃ p b, flt t t.size 0 = (p, b) := ⟨_, _, rfl⟩
    have Hf := Lib.hid hf
    clear hf
    cases b
    · have hr := Lib.hid (tget_ok Hg.out (by rw [Hf.out]))
      go_enter Tryd.func45, Tryd.ntmps45
      go_wp2_with fail
      refine (getdata_all s at_ _ hs h0 h1).mono ?_
      rintro e w1 ⟨rfl, rfl⟩
      rw [Hg.out]
      go_wp2_with fail
      refine (fault_any t _ (by omega) hT).mono ?_
      rintro e w2 ⟨rfl, b2⟩
      rw [Hf.out]
      go_wp2
      go_ret3
      exact ⟨ret_getd hr.out, b2⟩
    · have hr := Lib.hid (tget_bad Hg.out (by rw [Hf.out]))
      go_enter Tryd.func45, Tryd.ntmps45
      go_wp2_with fail
      refine (getdata_all s at_ _ hs h0 h1).mono ?_
      rintro e w1 ⟨rfl, rfl⟩
      rw [Hg.out]
      go_wp2_with fail
      refine (fault_any t _ (by omega) hT).mono ?_
      rintro e w2 ⟨rfl, b2⟩
      rw [Hf.out]
      go_wp2
      go_ret3
      exact ⟨ret_getd hr.out, b2⟩
  · have hr := Lib.hid (tget_code Hg.out hc)
    have hcn : (c != 0) = true := by simpa using hc
    clear hc
    go_enter Tryd.func45, Tryd.ntmps45
    go_wp2_with fail
    refine (getdata_all s at_ _ hs h0 h1).mono ?_
    rintro e w1 ⟨rfl, rfl⟩
    rw [Hg.out]
    go_wp2
    go_ret3
    exact ⟨ret_getd hr.out, Below.refl _ _⟩

set_option maxRecDepth 100000 in
theorem reftget_any (s : ByteArray) (at_ : Int) (w : World) (hs : s.size ≤ 140737488351232) (h0 : -9223372036854775808 ≤ at_) (h1 : at_ ≤ 9223372036854775807) :
    Calls Tryd.prog 49 #[.string s, .int .i64 at_] w fun e w' => e = .returned (.tuple #[.string (tget s at_).1, .int .i64 (tget s at_).2.1, .int .i64 (tget s at_).2.2]) ∧ w = w' := by
  obtain ⟨t, p, c, hg⟩ : ∃ t p c, getD s at_ = (t, p, c) := ⟨_, _, _, rfl⟩
  have Hg := Lib.hid hg
  have ht : t.size ≤ 140737488351232 := by have := getD_size s at_; rw [hg] at this; simp at this; omega
  clear hg
  by_cases hc : c = 0
  · subst hc
    obtain ⟨q, b, hf⟩ : ∃ p b, flt t t.size 0 = (p, b) := ⟨_, _, rfl⟩
    have Hf := Lib.hid hf
    clear hf
    cases b
    · have hr := Lib.hid (tget_ok Hg.out (by rw [Hf.out]))
      go_enter Tryd.func49, Tryd.ntmps49
      go_wp2_with fail
      refine (refgetdata_all s at_ _ hs h0 h1).mono ?_
      rintro e w1 ⟨rfl, rfl⟩
      rw [Hg.out]
      go_wp2_with fail
      refine (reffault_any t _ (by omega)).mono ?_
      rintro e w2 ⟨rfl, rfl⟩
      rw [Hf.out]
      go_wp2
      go_ret3
      exact ⟨ret_getd hr.out, rfl⟩
    · have hr := Lib.hid (tget_bad Hg.out (by rw [Hf.out]))
      go_enter Tryd.func49, Tryd.ntmps49
      go_wp2_with fail
      refine (refgetdata_all s at_ _ hs h0 h1).mono ?_
      rintro e w1 ⟨rfl, rfl⟩
      rw [Hg.out]
      go_wp2_with fail
      refine (reffault_any t _ (by omega)).mono ?_
      rintro e w2 ⟨rfl, rfl⟩
      rw [Hf.out]
      go_wp2
      go_ret3
      exact ⟨ret_getd hr.out, rfl⟩
  · have hr := Lib.hid (tget_code Hg.out hc)
    have hcn : (c != 0) = true := by simpa using hc
    clear hc
    go_enter Tryd.func49, Tryd.ntmps49
    go_wp2_with fail
    refine (refgetdata_all s at_ _ hs h0 h1).mono ?_
    rintro e w1 ⟨rfl, rfl⟩
    rw [Hg.out]
    go_wp2
    go_ret3
    exact ⟨ret_getd hr.out, rfl⟩
end Go.Proofs.YtifbkfkieppacaaDoor
