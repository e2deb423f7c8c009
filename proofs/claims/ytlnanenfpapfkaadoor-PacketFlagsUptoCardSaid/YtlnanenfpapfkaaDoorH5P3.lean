/- Parts of the proof, joined: DataPlain, Data, TextPut, VarPlain, VarSize, VarPut, PutP, AllowPlain, PkP. -/
import Derived.Test.YtlnanenfpapfkaaDoorH5P2
import Derived.Test.YtlnanenfpapfkaaDoorH5P1
import Derived.Test.YtlnanenfpapfkaaDoorRows
import Derived.WalkKit
import Derived.WalkLawsBesides
import Derived.WalkSpells
import Derived.Handy
import Derived.Lib.Hide
/- Plain facts about data; no program in sight. -/
namespace Go.Proofs.YtlnanenfpapfkaaDoor.Pl
open Go.PlainAid (bt bt_nonneg bt_le get_bt bt_end)

def dataC (s : ByteArray) : Int := if 65535 < s.size then 149 else 0
def dataS (s : ByteArray) : ByteArray := if 65535 < s.size then ⟨#[]⟩ else ⟨(fixS 2 s.size).toArray⟩ ++ s
theorem data_big {s : ByteArray} (h : 65535 < s.size) : dataC s = 149 ∧ dataS s = ⟨#[]⟩ := by unfold dataC dataS; rw [if_pos h, if_pos h]; exact ⟨rfl, rfl⟩
theorem data_ok {s : ByteArray} (h : ¬ 65535 < s.size) : dataC s = 0 ∧ dataS s = ⟨(fixS 2 s.size).toArray⟩ ++ s := by unfold dataC dataS; rw [if_neg h, if_neg h]; exact ⟨rfl, rfl⟩
theorem dataC_bd (s : ByteArray) : 0 ≤ dataC s ∧ dataC s ≤ 149 := by
  unfold dataC
  split
  all_goals omega
theorem fixS_len (d n : Int) : (fixS d n).length ≤ d.toNat := by
  unfold fixS
  split
  · rw [fb_length]; omega
  · simp
/-- The data at a place: the data, the place behind it, the code. -/
def getD (s : ByteArray) (at_ : Int) : ByteArray × Int × Int :=
  if (getF s at_ 2).2.2 ≠ 0 then (⟨#[]⟩, 0, (getF s at_ 2).2.2)
  else if (s.size : Int) - (getF s at_ 2).2.1 < (getF s at_ 2).1 then (⟨#[]⟩, 0, 242)
  else (s.extract (getF s at_ 2).2.1.toNat ((getF s at_ 2).2.1 + (getF s at_ 2).1).toNat, (getF s at_ 2).2.1 + (getF s at_ 2).1, 0)
/-- What may come of the two bytes ahead. -/
theorem getF_two (s : ByteArray) (at_ : Int) : (getF s at_ 2 = (0, 0, 128)) ∨ (getF s at_ 2 = (0, 0, 242)) ∨ ∃ a m : Nat, at_ = a ∧ getF s at_ 2 = ((m : Int), ((a + 2 : Nat) : Int), 0) ∧ m < 65536 ∧ a + 2 ≤ s.size := by
  by_cases h : ¬ Wide 2 ∨ at_ < 0 ∨ (s.size : Int) < at_
  · exact .inl (getF_bad h)
  · by_cases h2 : (s.size : Int) - at_ < 2
    · exact .inr (.inl (getF_none h h2))
    · have h0 : 0 ≤ at_ := by
        by_cases h3 : at_ < 0
        · exact absurd (.inr (.inl h3)) h
        · omega
      obtain ⟨a, rfl⟩ := Int.eq_ofNat_of_zero_le h0
      have hb := gv_bd s a 2
      obtain ⟨m, hm⟩ := Int.eq_ofNat_of_zero_le hb.1
      refine .inr (.inr ⟨a, m, rfl, ?_, ?_, by omega⟩)
      · rw [getF_ok (.inr (.inl rfl)) (by omega)]
        show (gv s a 2, (a : Int) + 2, (0 : Int)) = _
        rw [hm]
        simp
      · have := hb.2
        rw [hm] at this
        simp at this
        omega
theorem getD_code {s : ByteArray} {at_ n f c : Int} (h : getF s at_ 2 = (n, f, c)) (hc : c ≠ 0) : getD s at_ = (⟨#[]⟩, 0, c) := by unfold getD; rw [h]; simp [hc]
theorem getD_none {s : ByteArray} {at_ n f : Int} (h : getF s at_ 2 = (n, f, 0)) (hn : (s.size : Int) - f < n) : getD s at_ = (⟨#[]⟩, 0, 242) := by unfold getD; rw [h]; simp [hn]
theorem getD_ok {s : ByteArray} {at_ : Int} {m f : Nat} (h : getF s at_ 2 = ((m : Int), (f : Int), 0)) (hn : f + m ≤ s.size) : getD s at_ = (s.extract f (f + m), (f : Int) + m, 0) := by
  unfold getD
  rw [h]
  have : ¬ ((s.size : Int) - f < m) := by omega
  simp only [ne_eq, not_true_eq_false, if_false, this]
  congr 2
theorem getD_codes (s : ByteArray) (at_ : Int) : 0 ≤ (getD s at_).2.2 ∧ (getD s at_).2.2 ≤ 242 := by
  have h := getF_code s at_ 2
  unfold getD
  repeat' split
  all_goals first | exact h | exact ⟨by simp, by simp⟩
end Go.Proofs.YtlnanenfpapfkaaDoor.Pl

/- The walks of both Data and both GetData functions. -/
namespace Go.Proofs.YtlnanenfpapfkaaDoor
open Go.RowKit Pl
open Go.PlainAid (bt bt_nonneg bt_le get_bt bt_end)

theorem ret_data {k : IntKind} {s : ByteArray} {c : Int} {x : ByteArray} (h : dataC s = c ∧ dataS s = x) :
    Ending.returned (.tuple #[.string x, .int k c]) = .returned (.tuple #[.string (dataS s), .int k (dataC s)]) := by rw [h.1, h.2]
theorem ret_getd {k : IntKind} {p : ByteArray × Int × Int} {x : ByteArray} {y z : Int} (h : p = (x, y, z)) :
    Ending.returned (.tuple #[.string x, .int .i64 y, .int k z]) = .returned (.tuple #[.string p.1, .int .i64 p.2.1, .int k p.2.2]) := by rw [h]

set_option maxRecDepth 100000 in
theorem data_all (s : ByteArray) (w : World) (_hs : s.size ≤ 140737488351232) :
    Calls Tryd.prog 85 #[.string s] w fun e w' => e = .returned (.tuple #[.string (dataS s), .int .u8 (dataC s)]) ∧ Below w.heap.size w w' := by
  by_cases hb : 65535 < s.size
  · have hd := Lib.hid (data_big hb)
    go_enter Tryd.func85, Tryd.ntmps85
    go_wp2
    go_ret2
    exact ⟨ret_data hd.out, Below.refl _ _⟩
  · have hd := Lib.hid (data_ok hb)
    have hl := fixS_len 2 s.size
    go_enter Tryd.func85, Tryd.ntmps85
    go_wp2_with fail
    refine (fixed_all 2 s.size _).mono ?_
    rintro e w1 ⟨rfl, b1⟩
    go_wp2
    go_ret2
    exact ⟨ret_data hd.out, b1⟩

set_option maxRecDepth 100000 in
theorem refdata_all (s : ByteArray) (w : World) (_hs : s.size ≤ 140737488351232) :
    Calls Tryd.prog 92 #[.string s] w fun e w' => e = .returned (.tuple #[.string (dataS s), .int .i64 (dataC s)]) ∧ Below w.heap.size w w' := by
  by_cases hb : 65535 < s.size
  · have hd := Lib.hid (data_big hb)
    go_enter Tryd.func92, Tryd.ntmps92
    go_wp2
    go_ret2
    exact ⟨ret_data hd.out, Below.refl _ _⟩
  · have hd := Lib.hid (data_ok hb)
    have hl := fixS_len 2 s.size
    go_enter Tryd.func92, Tryd.ntmps92
    go_wp2_with fail
    refine (reffixed_all 2 s.size _).mono ?_
    rintro e w1 ⟨rfl, b1⟩
    go_wp2
    go_ret2
    exact ⟨ret_data hd.out, b1⟩

set_option maxRecDepth 100000 in
theorem getdata_all (s : ByteArray) (at_ : Int) (w : World) (hs : s.size ≤ 140737488351232) (h0 : -9223372036854775808 ≤ at_) (h1 : at_ ≤ 9223372036854775807) :
    Calls Tryd.prog 98 #[.string s, .int .i64 at_] w fun e w' => e = .returned (.tuple #[.string (getD s at_).1, .int .i64 (getD s at_).2.1, .int .u8 (getD s at_).2.2]) ∧ w = w' := by
  rcases getF_two s at_ with hg | hg | ⟨a, m, rfl, hg, hm, ha⟩
  · have hd := Lib.hid (getD_code hg (by decide))
    go_enter Tryd.func98, Tryd.ntmps98
    go_wp2_with fail
    refine (getfixed_all s at_ 2 _ hs h0 h1).mono ?_
    rintro e w1 ⟨rfl, rfl⟩
    rw [hg]
    clear hg
    go_wp2
    go_ret3
    exact ⟨ret_getd hd.out, rfl⟩
  · have hd := Lib.hid (getD_code hg (by decide))
    go_enter Tryd.func98, Tryd.ntmps98
    go_wp2_with fail
    refine (getfixed_all s at_ 2 _ hs h0 h1).mono ?_
    rintro e w1 ⟨rfl, rfl⟩
    rw [hg]
    clear hg
    go_wp2
    go_ret3
    exact ⟨ret_getd hd.out, rfl⟩
  · by_cases hn : a + 2 + m ≤ s.size
    · have hd := Lib.hid (getD_ok hg hn)
      have hg' := Lib.hid hg
      clear hg
      go_enter Tryd.func98, Tryd.ntmps98
      go_wp2_with fail
      refine (getfixed_all s a 2 _ hs h0 h1).mono ?_
      rintro e w1 ⟨rfl, rfl⟩
      rw [hg'.out]
      go_wp2
      go_ret3
      exact ⟨ret_getd hd.out, rfl⟩
    · have hd := Lib.hid (getD_none hg (by omega))
      have hg' := Lib.hid hg
      clear hg
      go_enter Tryd.func98, Tryd.ntmps98
      go_wp2_with fail
      refine (getfixed_all s a 2 _ hs h0 h1).mono ?_
      rintro e w1 ⟨rfl, rfl⟩
      rw [hg'.out]
      go_wp2
      go_ret3
      exact ⟨ret_getd hd.out, rfl⟩

end Go.Proofs.YtlnanenfpapfkaaDoor

/- The walks of both Put and both Get functions of package text. -/
namespace Go.Proofs.YtlnanenfpapfkaaDoor
open Go.RowKit Pl Go.Shelf

/-- A text's code, and its bytes. -/
def tputC (s : ByteArray) : Int := if (flt s s.size 0).2 = true then 129 else dataC s
def tputS (s : ByteArray) : ByteArray := if (flt s s.size 0).2 = true then ⟨#[]⟩ else dataS s
theorem tput_bad {s : ByteArray} (h : (flt s s.size 0).2 = true) : tputC s = 129 ∧ tputS s = ⟨#[]⟩ := by unfold tputC tputS; rw [if_pos h, if_pos h]; exact ⟨rfl, rfl⟩
theorem tput_ok {s : ByteArray} (h : (flt s s.size 0).2 = false) : tputC s = dataC s ∧ tputS s = dataS s := by unfold tputC tputS; rw [if_neg (by rw [h]; simp), if_neg (by rw [h]; simp)]; exact ⟨rfl, rfl⟩
theorem tputC_bd (s : ByteArray) : 0 ≤ tputC s ∧ tputC s ≤ 149 := by
  have := dataC_bd s
  unfold tputC
  split
  all_goals omega
theorem ret_tput {k : IntKind} {s : ByteArray} {c : Int} {x : ByteArray} (h : tputC s = c ∧ tputS s = x) :
    Ending.returned (.tuple #[.string x, .int k c]) = .returned (.tuple #[.string (tputS s), .int k (tputC s)]) := by rw [h.1, h.2]
/-- The text at a place: the text, the place behind it, the code. -/
def tget (s : ByteArray) (at_ : Int) : ByteArray × Int × Int :=
  if (getD s at_).2.2 ≠ 0 then (⟨#[]⟩, 0, (getD s at_).2.2) else if (flt (getD s at_).1 (getD s at_).1.size 0).2 = true then (⟨#[]⟩, 0, 129) else getD s at_
theorem tget_code {s : ByteArray} {at_ : Int} {t : ByteArray} {f c : Int} (h : getD s at_ = (t, f, c)) (hc : c ≠ 0) : tget s at_ = (⟨#[]⟩, 0, c) := by unfold tget; rw [h]; simp [hc]
theorem tget_bad {s : ByteArray} {at_ : Int} {t : ByteArray} {f : Int} (h : getD s at_ = (t, f, 0)) (hb : (flt t t.size 0).2 = true) : tget s at_ = (⟨#[]⟩, 0, 129) := by unfold tget; rw [h]; simp [hb]
theorem tget_ok {s : ByteArray} {at_ : Int} {t : ByteArray} {f : Int} (h : getD s at_ = (t, f, 0)) (hb : (flt t t.size 0).2 = false) : tget s at_ = (t, f, 0) := by unfold tget; rw [h]; simp [hb]
theorem tget_codes (s : ByteArray) (at_ : Int) : 0 ≤ (tget s at_).2.2 ∧ (tget s at_).2.2 ≤ 242 := by
  have h := getD_codes s at_
  unfold tget
  repeat' split
  all_goals first | exact h | exact ⟨by simp, by simp⟩
/-- What is read is no longer than what it is read from. -/
theorem getD_size (s : ByteArray) (at_ : Int) : (getD s at_).1.size ≤ s.size := by
  unfold getD
  split
  · exact Nat.zero_le _
  · split
    · exact Nat.zero_le _
    · simp only [ByteArray.size_extract]
      omega

set_option maxRecDepth 100000 in
theorem tput_any (s : ByteArray) (w : World) (hs : s.size ≤ 140737488351232) (hT : Tabs w) :
    Calls Tryd.prog 84 #[.string s] w fun e w' => e = .returned (.tuple #[.string (tputS s), .int .u8 (tputC s)]) ∧ Below w.heap.size w w' := by
  obtain ⟨p, b, hf⟩ : ∃ p b, flt s s.size 0 = (p, b) := ⟨_, _, rfl⟩
  have Hf := Lib.hid hf
  clear hf
  cases b
  · have hr := Lib.hid (tput_ok (s := s) (by rw [Hf.out]))
    go_enter Tryd.func84, Tryd.ntmps84
    go_wp2_with fail
    refine (fault_any s _ (by omega) hT).mono ?_
    rintro e w1 ⟨rfl, b1⟩
    rw [Hf.out]
    go_wp2_with fail
    refine (data_all s _ hs).mono ?_
    rintro e w2 ⟨rfl, b2⟩
    go_wp2
    go_ret2
    exact ⟨ret_tput hr.out, b1.trans (b2.mono b1.size)⟩
  · have hr := Lib.hid (tput_bad (s := s) (by rw [Hf.out]))
    go_enter Tryd.func84, Tryd.ntmps84
    go_wp2_with fail
    refine (fault_any s _ (by omega) hT).mono ?_
    rintro e w1 ⟨rfl, b1⟩
    rw [Hf.out]
    go_wp2
    go_ret2
    exact ⟨ret_tput hr.out, b1⟩

set_option maxRecDepth 100000 in
theorem reftput_any (s : ByteArray) (w : World) (hs : s.size ≤ 140737488351232) :
    Calls Tryd.prog 76 #[.string s] w fun e w' => e = .returned (.tuple #[.string (tputS s), .int .i64 (tputC s)]) ∧ Below w.heap.size w w' := by
  obtain ⟨p, b, hf⟩ : ∃ p b, flt s s.size 0 = (p, b) := ⟨_, _, rfl⟩
  have Hf := Lib.hid hf
  clear hf
  cases b
  · have hr := Lib.hid (tput_ok (s := s) (by rw [Hf.out]))
    go_enter Tryd.func76, Tryd.ntmps76
    go_wp2_with fail
    refine (reffault_any s _ (by omega)).mono ?_
    rintro e w1 ⟨rfl, rfl⟩
    rw [Hf.out]
    go_wp2_with fail
    refine (refdata_all s _ hs).mono ?_
    rintro e w2 ⟨rfl, b2⟩
    go_wp2
    go_ret2
    exact ⟨ret_tput hr.out, b2⟩
  · have hr := Lib.hid (tput_bad (s := s) (by rw [Hf.out]))
    go_enter Tryd.func76, Tryd.ntmps76
    go_wp2_with fail
    refine (reffault_any s _ (by omega)).mono ?_
    rintro e w1 ⟨rfl, rfl⟩
    rw [Hf.out]
    go_wp2
    go_ret2
    exact ⟨ret_tput hr.out, Below.refl _ _⟩

set_option maxRecDepth 100000 in
theorem tget_any (s : ByteArray) (at_ : Int) (w : World) (hs : s.size ≤ 140737488351232) (h0 : -9223372036854775808 ≤ at_) (h1 : at_ ≤ 9223372036854775807) (hT : Tabs w) :
    Calls Tryd.prog 82 #[.string s, .int .i64 at_] w fun e w' => e = .returned (.tuple #[.string (tget s at_).1, .int .i64 (tget s at_).2.1, .int .u8 (tget s at_).2.2]) ∧ Below w.heap.size w w' := by
  obtain ⟨t, p, c, hg⟩ : ∃ t p c, getD s at_ = (t, p, c) := ⟨_, _, _, rfl⟩
  have Hg := Lib.hid hg
  have ht : t.size ≤ 140737488351232 := by have := getD_size s at_; rw [hg] at this; simp at this; omega
  clear hg
  by_cases hc : c = 0
  · subst hc
    obtain ⟨q, b, hf⟩ : ∃ p b, flt t t.size 0 = (p, b) := ⟨_, _, rfl⟩
    have Hf := Lib.hid hf
    clear hf
    cases b
    · have hr := Lib.hid (tget_ok Hg.out (by rw [Hf.out]))
      go_enter Tryd.func82, Tryd.ntmps82
      go_wp2_with fail
      refine (getdata_all s at_ _ hs h0 h1).mono ?_
      rintro e w1 ⟨rfl, rfl⟩
      rw [Hg.out]
      go_wp2_with fail
      refine (fault_any t _ (by omega) hT).mono ?_
      rintro e w2 ⟨rfl, b2⟩
      rw [Hf.out]
      go_wp2
      go_ret3
      exact ⟨ret_getd hr.out, b2⟩
    · have hr := Lib.hid (tget_bad Hg.out (by rw [Hf.out]))
      go_enter Tryd.func82, Tryd.ntmps82
      go_wp2_with fail
      refine (getdata_all s at_ _ hs h0 h1).mono ?_
      rintro e w1 ⟨rfl, rfl⟩
      rw [Hg.out]
      go_wp2_with fail
      refine (fault_any t _ (by omega) hT).mono ?_
      rintro e w2 ⟨rfl, b2⟩
      rw [Hf.out]
      go_wp2
      go_ret3
      exact ⟨ret_getd hr.out, b2⟩
  · have hr := Lib.hid (tget_code Hg.out hc)
    have hcn : (c != 0) = true := by simpa using hc
    clear hc
    go_enter Tryd.func82, Tryd.ntmps82
    go_wp2_with fail
    refine (getdata_all s at_ _ hs h0 h1).mono ?_
    rintro e w1 ⟨rfl, rfl⟩
    rw [Hg.out]
    go_wp2
    go_ret3
    exact ⟨ret_getd hr.out, Below.refl _ _⟩

end Go.Proofs.YtlnanenfpapfkaaDoor

/- Plain facts about variable byte integers: sizes, bytes, reading; no program in sight. -/
namespace Go.Proofs.YtlnanenfpapfkaaDoor.Pl

/-- How many bytes a number takes; 0: none. -/
def sz (n : Int) : Int := if n < 0 ∨ 268435455 < n then 0 else if n < 128 then 1 else if n < 16384 then 2 else if n < 2097152 then 3 else 4

theorem sz_bad {n : Int} (h : n < 0 ∨ 268435455 < n) : sz n = 0 := by unfold sz; rw [if_pos h]
theorem sz_1 {n : Int} (h0 : 0 ≤ n) (h : n < 128) : sz n = 1 := by unfold sz; rw [if_neg (by omega), if_pos h]
theorem sz_2 {n : Int} (h0 : 128 ≤ n) (h : n < 16384) : sz n = 2 := by unfold sz; rw [if_neg (by omega), if_neg (by omega), if_pos h]
theorem sz_3 {n : Int} (h0 : 16384 ≤ n) (h : n < 2097152) : sz n = 3 := by unfold sz; rw [if_neg (by omega), if_neg (by omega), if_neg (by omega), if_pos h]
theorem sz_4 {n : Int} (h0 : 2097152 ≤ n) (h : n ≤ 268435455) : sz n = 4 := by unfold sz; rw [if_neg (by omega), if_neg (by omega), if_neg (by omega), if_neg (by omega)]
theorem sz_div {n : Int} (h0 : 128 ≤ n) (h : n ≤ 268435455) : sz n = sz (n / 128) + 1 := by
  by_cases h1 : n < 16384
  · rw [sz_2 h0 h1, sz_1 (by omega) (by omega)]; rfl
  · by_cases h2 : n < 2097152
    · rw [sz_3 (by omega) h2, sz_2 (by omega) (by omega)]; rfl
    · rw [sz_4 (by omega) h, sz_3 (by omega) (by omega)]; rfl
theorem sz_pos {n : Int} (h0 : 0 ≤ n) (h : n ≤ 268435455) : 1 ≤ sz n ∧ sz n ≤ 4 := by
  unfold sz
  rw [if_neg (by omega)]
  repeat' split
  all_goals omega
theorem sz_room {n m k : Int} (h : sz n = sz m + k - 1) (hd : sz m = sz (m / 128) + 1) (h0 : 0 ≤ n) (h1 : n ≤ 268435455) (m0 : 0 ≤ m / 128) (m1 : m / 128 ≤ 268435455) : k ≤ 3 := by
  have a := sz_pos h0 h1
  have b := sz_pos m0 m1
  omega

/-- r bytes of a number, the lowest seven bits first. -/
def vb : Int → Nat → List UInt8
  | _, 0 => []
  | n, 1 => [by8 (n % 128)]
  | n, r + 2 => by8 (n % 128 + 128) :: vb (n / 128) (r + 1)
/-- A number's bytes. -/
def enc (n : Int) : List UInt8 := vb n (sz n).toNat
theorem vb_length (r : Nat) : ∀ n, (vb n r).length = r := by
  induction r with
  | zero => intro n; rfl
  | succ r ih =>
    intro n
    cases r with
    | zero => rfl
    | succ r => simp [vb, ih]
theorem enc_length (n : Int) : (enc n).length = (sz n).toNat := vb_length _ _
theorem vb_last (n : Int) : vb n 1 = [by8 (n % 128)] := rfl
theorem vb_more (n : Int) (r : Nat) (h : 2 ≤ r) : vb n r = by8 (n % 128 + 128) :: vb (n / 128) (r - 1) := by
  obtain ⟨q, rfl⟩ : ∃ q, r = q + 2 := ⟨r - 2, by omega⟩
  rfl
theorem vb_step {n z x : Int} {l e : List UInt8} {k : Nat} (hv : l ++ vb (n / 128 ^ k) (z.toNat - k) = e) (hx : x = n / 128 ^ k % 128) (hz : (k : Int) + 1 < z) :
    (l ++ [by8 (x + 128)]) ++ vb (n / 128 ^ (k + 1)) (z.toNat - (k + 1)) = e := by
  rw [← hv, vb_more (n / 128 ^ k) (z.toNat - k) (by omega), hx, Int.pow_succ, ← Int.ediv_ediv_of_nonneg (Int.pow_nonneg (by decide)), Nat.sub_add_eq]
  simp
theorem vb_stop {n z x : Int} {l e : List UInt8} {k : Nat} (hv : l ++ vb (n / 128 ^ k) (z.toNat - k) = e) (hx : x = n / 128 ^ k % 128) (hz : (k : Int) + 1 = z) :
    (l ++ [by8 x]) ++ vb (n / 128 ^ (k + 1)) (z.toNat - (k + 1)) = e := by
  rw [← hv, show z.toNat - k = 1 from by omega, show z.toNat - (k + 1) = 0 from by omega, vb_last, hx]
  simp [vb]
theorem vm_step {m z : Int} {l e : List UInt8} {k : Nat} (hv : l ++ vb m (z.toNat - k) = e) (hz : (k : Int) + 1 < z) : (l ++ [by8 (m % 128 + 128)]) ++ vb (m / 128) (z.toNat - (k + 1)) = e := by
  rw [← hv, vb_more m (z.toNat - k) (by omega), Nat.sub_add_eq]
  simp
theorem vm_stop {m z : Int} {l e : List UInt8} {k : Nat} (hv : l ++ vb m (z.toNat - k) = e) (hz : (k : Int) + 1 = z) : (l ++ [by8 (m % 128)]) ++ vb (m / 128) (z.toNat - (k + 1)) = e := by
  rw [← hv, show z.toNat - k = 1 from by omega, show z.toNat - (k + 1) = 0 from by omega, vb_last]
  simp [vb]

/-! Reading: at round k the number n has been gathered; the byte at a stands next. -/
open Go.PlainAid (bt bt_nonneg bt_le get_bt bt_end)
def gi (s : ByteArray) : Nat → Nat → Int → Nat → Int × Int × Int
  | 0, _, _, _ => (0, 0, 129)
  | f + 1, k, n, a =>
    if s.size ≤ a then (0, 0, 242) else if bt s a < 128 then (if 0 < k ∧ bt s a = 0 then (0, 0, 129) else (n + bt s a * 128 ^ k, (a : Int) + 1, 0))
    else gi s f (k + 1) (n + bt s a % 128 * 128 ^ k) (a + 1)
/-- The number at a place: the number, the place behind it, the code. -/
def getV (s : ByteArray) (at_ : Int) : Int × Int × Int := if at_ < 0 ∨ (s.size : Int) < at_ then (0, 0, 128) else gi s 4 0 0 at_.toNat
theorem getV_bad {s : ByteArray} {at_ : Int} (h : at_ < 0 ∨ (s.size : Int) < at_) : getV s at_ = (0, 0, 128) := by unfold getV; rw [if_pos h]
theorem getV_ok {s : ByteArray} {a : Nat} (h : a ≤ s.size) : getV s a = gi s 4 0 0 a := by unfold getV; rw [if_neg (by omega)]; rfl
theorem gi_end {s : ByteArray} {f k a : Nat} {n : Int} (h : s.size ≤ a) : gi s (f + 1) k n a = (0, 0, 242) := by unfold gi; rw [if_pos h]
theorem gi_last {s : ByteArray} {f k a : Nat} {n : Int} (h : ¬ s.size ≤ a) (hb : bt s a < 128) (hk : ¬ (0 < k ∧ bt s a = 0)) : gi s (f + 1) k n a = (n + bt s a * 128 ^ k, (a : Int) + 1, 0) := by
  unfold gi; rw [if_neg h, if_pos hb, if_neg hk]
theorem gi_long {s : ByteArray} {f k a : Nat} {n : Int} (h : ¬ s.size ≤ a) (hb : bt s a < 128) (hk : 0 < k ∧ bt s a = 0) : gi s (f + 1) k n a = (0, 0, 129) := by
  unfold gi; rw [if_neg h, if_pos hb, if_pos hk]
theorem gi_more {s : ByteArray} {f k a : Nat} {n : Int} (h : ¬ s.size ≤ a) (hb : 128 ≤ bt s a) : gi s (f + 1) k n a = gi s f (k + 1) (n + bt s a % 128 * 128 ^ k) (a + 1) := by
  conv => lhs; unfold gi
  rw [if_neg h, if_neg (by omega)]
theorem gi_zero {s : ByteArray} {k a : Nat} {n : Int} : gi s 0 k n a = (0, 0, 129) := rfl
theorem sz_small {n : Int} {k : Nat} (h0 : 0 ≤ n) (h1 : n < 128 ^ k) (hk : 1 ≤ k ∧ k ≤ 3) : sz n ≤ k := by
  obtain rfl | rfl | rfl : k = 1 ∨ k = 2 ∨ k = 3 := by omega
  all_goals (simp at h1; unfold sz; rw [if_neg (by omega)]; repeat' split) <;> omega
theorem sz_exact {n : Int} {k : Nat} (h0 : 0 ≤ n) (h1 : n < 128 ^ (k + 1)) (h2 : k = 0 ∨ 128 ^ k ≤ n) (hk : k ≤ 3) : sz n = k + 1 := by
  obtain rfl | rfl | rfl | rfl : k = 0 ∨ k = 1 ∨ k = 2 ∨ k = 3 := by omega
  all_goals (simp at h1 h2; unfold sz; rw [if_neg (by omega)]; repeat' split) <;> omega
theorem gi_code (s : ByteArray) : ∀ (f k : Nat) (n : Int) (a : Nat), 0 ≤ (gi s f k n a).2.2 ∧ (gi s f k n a).2.2 ≤ 242 := by
  intro f
  induction f with
  | zero => intro k n a; rw [gi_zero]; exact ⟨by decide, by decide⟩
  | succ f ih =>
    intro k n a
    unfold gi
    repeat' split
    all_goals first | exact ih _ _ _ | exact ⟨by simp, by simp⟩
theorem getV_code (s : ByteArray) (at_ : Int) : 0 ≤ (getV s at_).2.2 ∧ (getV s at_).2.2 ≤ 242 := by
  unfold getV
  split
  · exact ⟨by decide, by decide⟩
  · exact gi_code _ _ _ _ _
end Go.Proofs.YtlnanenfpapfkaaDoor.Pl

/- The walks of both Size functions: they give sz. -/
namespace Go.Proofs.YtlnanenfpapfkaaDoor
open Go.RowKit Pl

theorem size_any (n : Int) (w : World) : Calls Tryd.prog 40 #[.int .i64 n] w fun e w' => e = .returned (.int .i64 (sz n)) ∧ w = w' := by
  go_enter Tryd.func40, Tryd.ntmps40
  go_wp2
  all_goals go_ret
  all_goals exact ⟨ret_int (by first | rw [sz_bad (by omega)] | rw [sz_1 (by omega) (by omega)] | rw [sz_2 (by omega) (by omega)] | rw [sz_3 (by omega) (by omega)] | rw [sz_4 (by omega) (by omega)]), rfl⟩

theorem refsize_any (n : Int) (w : World) : Calls Tryd.prog 52 #[.int .i64 n] w fun e w' => e = .returned (.int .i64 (sz n)) ∧ w = w' := by
  by_cases hb : n < 0 ∨ 268435455 < n
  · have hs : Hid (sz n = 0) := Lib.hid (sz_bad hb)
    go_enter Tryd.func52, Tryd.ntmps52
    go_wp2
    all_goals go_ret
    all_goals exact ⟨ret_int hs.out.symm, rfl⟩
  · have h0 : 0 ≤ n := by omega
    have h1 : n ≤ 268435455 := by omega
    clear hb
    go_enter Tryd.func52, Tryd.ntmps52
    go_wp2
    go_loop [0, 3] (fun v0 v3 => ∃ m k : Int, v0 = .int .i64 m ∧ v3 = .int .i64 k ∧ 0 ≤ m ∧ m ≤ 268435455 ∧ 1 ≤ k ∧ k ≤ 4 ∧ sz n = sz m + k - 1) (fun v0 _ => (intOf v0).toNat)
    case atStart => exact ⟨n, 1, rfl, rfl, h0, h1, by omega, by omega, by omega⟩
    case round =>
      obtain ⟨m, k, rfl, rfl, hm0, hm1, hk1, hk4, hs'⟩ := hrel
      have hs := Lib.hid hs'
      clear hs'
      by_cases hm : 127 < m
      · have hd := Lib.hid (sz_div (n := m) (by omega) hm1)
        have hk3 : k ≤ 3 := sz_room hs.out hd.out h0 h1 (by omega) (by omega)
        go_wp2
        go_round
        case rel => exact ⟨m / 128, k + 1, rfl, rfl, by omega, by omega, by omega, by omega, by rw [hs.out, hd.out]; omega⟩
        case measure => simp [intOf]; omega
      · have hd := Lib.hid (sz_1 (n := m) (by omega) (by omega))
        go_wp2
        go_ret
        exact ⟨ret_int (by rw [hs.out, hd.out]; omega), rfl⟩
end Go.Proofs.YtlnanenfpapfkaaDoor

/- The walks of both Put functions. -/
namespace Go.Proofs.YtlnanenfpapfkaaDoor
open Go.RowKit Pl
theorem u8_info : (Tryd.prog.info? 5).map (fun i => (i.zero, i.size, i.bytes)) = some (some (.int .u8 0), 1, 1) := by kernel_rfl

set_option maxRecDepth 100000 in
theorem put_any (n : Int) (w : World) (h0 : 0 ≤ n) (h1 : n ≤ 268435455) :
    Calls Tryd.prog 21 #[.int .i64 n] w fun e w' => e = .returned (.tuple #[.string ⟨(enc n).toArray⟩, .int .u8 0]) ∧ Below w.heap.size w w' := by
  obtain ⟨i0, hi, hz0, hz1, hz2⟩ := info_parts u8_info
  have hsz := sz_pos h0 h1
  obtain ⟨z, hz⟩ : ∃ z, z = sz n := ⟨_, rfl⟩
  have he : Hid (enc n = vb n z.toNat) := by unfold enc; rw [hz]; exact Lib.hid rfl
  rw [← hz] at hsz
  go_enter Tryd.func21, Tryd.ntmps21
  go_wp2_with fail
  refine (size_any n _).mono ?_
  rintro e w' ⟨rfl, rfl⟩
  rw [← hz]
  have hz' := Lib.hid hz
  clear hz
  have hne : (z == 0) = false := by rw [beq_eq_false_iff_ne]; omega
  go_wp2
  go_loopw [13, 5] (fun i b wr => ∃ (k : Nat) (l : List UInt8), i = .int .i64 k ∧ (k : Int) ≤ z ∧ wr.ownsRow w.heap.size 5 1 b k (cells8 l) ∧ l ++ vb (n / 128 ^ k) (z.toNat - k) = enc n ∧ Below w.heap.size w wr)
    (fun i _ _ => (z - intOf i).toNat)
  case atStart => exact ⟨0, [], rfl, by omega, World.ownsRow_nil _ _ _ _, by simpa using he.out.symm, Below.refl _ _⟩
  case round =>
    obtain ⟨k, l, rfl, hk, hown, hv', hbel⟩ := hrel
    have hv := Lib.hid hv'
    clear hv'
    by_cases hkz : (k : Int) < z
    · obtain rfl | rfl | rfl | rfl : k = 0 ∨ k = 1 ∨ k = 2 ∨ k = 3 := by omega
      · obtain ⟨x, hx⟩ : ∃ x, x = (n) % 128 := ⟨_, rfl⟩
        have hx0 : 0 ≤ x := by omega
        have hx1 : x < 128 := by omega
        have ha : bits .and .i64 (n) 127 = x := by rw [and_127 (by omega) (by omega)]; exact hx.symm
        have ho : bits .or .u8 x 128 = x + 128 := or_128 hx0 hx1
        have Hx := Lib.hid hx
        clear hx
        by_cases hm : (0 : Int) + 1 < z
        · go_wp2_with (at_builtin; refine wpList_push (.tmp 28) (.tmp 30) 22 5 i0 (.int .u8 0) 1 rfl rfl Tryd.underlying22 hi hz0 hz1 hz2 rfl w.heap.size _ 0 (cells8 l) (.int .u8 (x + 128)) rfl rfl hown hbel hbel.size rfl (by simp [maxLen]) (by omega) ?_; intro v' w1 hown1 hbel1 hs1 hn1)
          go_wp2
          go_roundw
          case rel => exact ⟨0 + 1, l ++ [by8 (x + 128)], by go_num, by omega, by rw [← cells8_snoc l (x + 128) (x + 128) (by omega)]; exact hown1, vb_step hv.out (by rw [Hx.out]; simp) hm, hbel1⟩
          case measure => simp [intOf]; omega
        · go_wp2_with (at_builtin; refine wpList_push (.tmp 28) (.tmp 30) 22 5 i0 (.int .u8 0) 1 rfl rfl Tryd.underlying22 hi hz0 hz1 hz2 rfl w.heap.size _ 0 (cells8 l) (.int .u8 x) rfl rfl hown hbel hbel.size rfl (by simp [maxLen]) (by omega) ?_; intro v' w1 hown1 hbel1 hs1 hn1)
          go_wp2
          go_roundw
          case rel => exact ⟨0 + 1, l ++ [by8 x], by go_num, by omega, by rw [← cells8_snoc l x x (by omega)]; exact hown1, vb_stop hv.out (by rw [Hx.out]; simp) (by omega), hbel1⟩
          case measure => simp [intOf]; omega
      · obtain ⟨x, hx⟩ : ∃ x, x = (n / 128) % 128 := ⟨_, rfl⟩
        have hx0 : 0 ≤ x := by omega
        have hx1 : x < 128 := by omega
        have ha : bits .and .i64 (n / 128) 127 = x := by rw [and_127 (by omega) (by omega)]; exact hx.symm
        have ho : bits .or .u8 x 128 = x + 128 := or_128 hx0 hx1
        have Hx := Lib.hid hx
        clear hx
        by_cases hm : (1 : Int) + 1 < z
        · go_wp2_with (at_builtin; refine wpList_push (.tmp 28) (.tmp 30) 22 5 i0 (.int .u8 0) 1 rfl rfl Tryd.underlying22 hi hz0 hz1 hz2 rfl w.heap.size _ 1 (cells8 l) (.int .u8 (x + 128)) rfl rfl hown hbel hbel.size rfl (by simp [maxLen]) (by omega) ?_; intro v' w1 hown1 hbel1 hs1 hn1)
          go_wp2
          go_roundw
          case rel => exact ⟨1 + 1, l ++ [by8 (x + 128)], by go_num, by omega, by rw [← cells8_snoc l (x + 128) (x + 128) (by omega)]; exact hown1, vb_step hv.out (by rw [Hx.out]; simp) hm, hbel1⟩
          case measure => simp [intOf]; omega
        · go_wp2_with (at_builtin; refine wpList_push (.tmp 28) (.tmp 30) 22 5 i0 (.int .u8 0) 1 rfl rfl Tryd.underlying22 hi hz0 hz1 hz2 rfl w.heap.size _ 1 (cells8 l) (.int .u8 x) rfl rfl hown hbel hbel.size rfl (by simp [maxLen]) (by omega) ?_; intro v' w1 hown1 hbel1 hs1 hn1)
          go_wp2
          go_roundw
          case rel => exact ⟨1 + 1, l ++ [by8 x], by go_num, by omega, by rw [← cells8_snoc l x x (by omega)]; exact hown1, vb_stop hv.out (by rw [Hx.out]; simp) (by omega), hbel1⟩
          case measure => simp [intOf]; omega
      · obtain ⟨x, hx⟩ : ∃ x, x = (n / 16384) % 128 := ⟨_, rfl⟩
        have hx0 : 0 ≤ x := by omega
        have hx1 : x < 128 := by omega
        have ha : bits .and .i64 (n / 16384) 127 = x := by rw [and_127 (by omega) (by omega)]; exact hx.symm
        have ho : bits .or .u8 x 128 = x + 128 := or_128 hx0 hx1
        have Hx := Lib.hid hx
        clear hx
        by_cases hm : (2 : Int) + 1 < z
        · go_wp2_with (at_builtin; refine wpList_push (.tmp 28) (.tmp 30) 22 5 i0 (.int .u8 0) 1 rfl rfl Tryd.underlying22 hi hz0 hz1 hz2 rfl w.heap.size _ 2 (cells8 l) (.int .u8 (x + 128)) rfl rfl hown hbel hbel.size rfl (by simp [maxLen]) (by omega) ?_; intro v' w1 hown1 hbel1 hs1 hn1)
          go_wp2
          go_roundw
          case rel => exact ⟨2 + 1, l ++ [by8 (x + 128)], by go_num, by omega, by rw [← cells8_snoc l (x + 128) (x + 128) (by omega)]; exact hown1, vb_step hv.out (by rw [Hx.out]; simp) hm, hbel1⟩
          case measure => simp [intOf]; omega
        · go_wp2_with (at_builtin; refine wpList_push (.tmp 28) (.tmp 30) 22 5 i0 (.int .u8 0) 1 rfl rfl Tryd.underlying22 hi hz0 hz1 hz2 rfl w.heap.size _ 2 (cells8 l) (.int .u8 x) rfl rfl hown hbel hbel.size rfl (by simp [maxLen]) (by omega) ?_; intro v' w1 hown1 hbel1 hs1 hn1)
          go_wp2
          go_roundw
          case rel => exact ⟨2 + 1, l ++ [by8 x], by go_num, by omega, by rw [← cells8_snoc l x x (by omega)]; exact hown1, vb_stop hv.out (by rw [Hx.out]; simp) (by omega), hbel1⟩
          case measure => simp [intOf]; omega
      · obtain ⟨x, hx⟩ : ∃ x, x = (n / 2097152) % 128 := ⟨_, rfl⟩
        have hx0 : 0 ≤ x := by omega
        have hx1 : x < 128 := by omega
        have ha : bits .and .i64 (n / 2097152) 127 = x := by rw [and_127 (by omega) (by omega)]; exact hx.symm
        have ho : bits .or .u8 x 128 = x + 128 := or_128 hx0 hx1
        have Hx := Lib.hid hx
        clear hx
        by_cases hm : (3 : Int) + 1 < z
        · exfalso; omega
        · go_wp2_with (at_builtin; refine wpList_push (.tmp 28) (.tmp 30) 22 5 i0 (.int .u8 0) 1 rfl rfl Tryd.underlying22 hi hz0 hz1 hz2 rfl w.heap.size _ 3 (cells8 l) (.int .u8 x) rfl rfl hown hbel hbel.size rfl (by simp [maxLen]) (by omega) ?_; intro v' w1 hown1 hbel1 hs1 hn1)
          go_wp2
          go_roundw
          case rel => exact ⟨3 + 1, l ++ [by8 x], by go_num, by omega, by rw [← cells8_snoc l x x (by omega)]; exact hown1, vb_stop hv.out (by rw [Hx.out]; simp) (by omega), hbel1⟩
          case measure => simp [intOf]; omega
    · obtain rfl : z = k := by omega
      have hc := run_string_own (P := Tryd.prog) 22 9 5 w.heap.size _ k l Tryd.underlying22 Tryd.underlying5 Tryd.underlying9 hown
      have hl := Lib.hid (show l = enc n by have := hv.out; simpa [vb] using this)
      go_wp2
      go_ret2
      exact ⟨ret2 (val_str hl.out) rfl, hbel⟩

/-- The code that comes with a number's bytes. -/
def putC (n : Int) : Int := if n < 0 ∨ 268435455 < n then 129 else 0
theorem enc_bad {n : Int} (h : n < 0 ∨ 268435455 < n) : enc n = [] := by unfold enc; rw [sz_bad h]; rfl

theorem put_all (n : Int) (w : World) :
    Calls Tryd.prog 21 #[.int .i64 n] w fun e w' => e = .returned (.tuple #[.string ⟨(enc n).toArray⟩, .int .u8 (putC n)]) ∧ Below w.heap.size w w' := by
  by_cases hb : n < 0 ∨ 268435455 < n
  · have he := Lib.hid (enc_bad hb)
    have hp : Hid (putC n = 129) := by unfold putC; rw [if_pos hb]; exact Lib.hid rfl
    have hz := sz_bad hb
    go_enter Tryd.func21, Tryd.ntmps21
    go_wp2_with fail
    refine (size_any n _).mono ?_
    rintro e w' ⟨rfl, rfl⟩
    go_wp2
    go_ret2
    exact ⟨ret2 (val_str (l := []) he.out.symm) (val_int hp.out.symm), Below.refl _ _⟩
  · have hp : putC n = 0 := by unfold putC; rw [if_neg hb]
    rw [hp]
    exact put_any n w (by omega) (by omega)

theorem refput_all (n : Int) (w : World) :
    Calls Tryd.prog 26 #[.int .i64 n] w fun e w' => e = .returned (.tuple #[.string ⟨(enc n).toArray⟩, .int .i64 (putC n)]) ∧ Below w.heap.size w w' := by
  by_cases hb : n < 0 ∨ 268435455 < n
  · have he := Lib.hid (enc_bad hb)
    have hp : Hid (putC n = 129) := by unfold putC; rw [if_pos hb]; exact Lib.hid rfl
    have hz := sz_bad hb
    go_enter Tryd.func26, Tryd.ntmps26
    go_wp2_with fail
    refine (refsize_any n _).mono ?_
    rintro e w' ⟨rfl, rfl⟩
    go_wp2
    go_ret2
    exact ⟨ret2 (val_str (l := []) he.out.symm) (val_int hp.out.symm), Below.refl _ _⟩
  · have hp : Hid (putC n = 0) := by unfold putC; rw [if_neg hb]; exact Lib.hid rfl
    have h0 : 0 ≤ n := by omega
    have h1 : n ≤ 268435455 := by omega
    clear hb
    have hsz := sz_pos h0 h1
    obtain ⟨z, hz⟩ : ∃ z, z = sz n := ⟨_, rfl⟩
    have he : Hid (enc n = vb n z.toNat) := by unfold enc; rw [hz]; exact Lib.hid rfl
    rw [← hz] at hsz
    have hone := fun W x => run_string_one (P := Tryd.prog) (w := W) 22 9 5 x Tryd.underlying22 Tryd.underlying5 Tryd.underlying9
    go_enter Tryd.func26, Tryd.ntmps26
    go_wp2_with fail
    refine (refsize_any n _).mono ?_
    rintro e w' ⟨rfl, rfl⟩
    rw [← hz]
    have hz' := Lib.hid hz
    clear hz
    have hne : (z == 0) = false := by rw [beq_eq_false_iff_ne]; omega
    go_wp2
    go_loopw [0, 5, 6] (fun vm s i wr => ∃ (m : Int) (k : Nat) (l : List UInt8), vm = .int .i64 m ∧ i = .int .i64 k ∧ s = .string ⟨l.toArray⟩ ∧ 0 ≤ m ∧ m ≤ 268435455 ∧ (k : Int) ≤ z ∧ l.length ≤ k ∧ l ++ vb m (z.toNat - k) = enc n ∧ Below w.heap.size w wr)
      (fun _ _ i _ => (z - intOf i).toNat)
    case atStart => exact ⟨n, 0, [], rfl, rfl, rfl, h0, h1, by omega, by simp, by simpa using he.out.symm, Below.refl _ _⟩
    case round =>
      obtain ⟨m, k, l, rfl, rfl, rfl, hm0, hm1, hk, hl4, hv', hbel⟩ := hrel
      have hv := Lib.hid hv'
      clear hv'
      by_cases hkz : (k : Int) < z
      · by_cases hm : (k : Int) + 1 < z
        · go_wp2
          go_roundw
          case rel => exact ⟨m / 128, k + 1, l ++ [by8 (m % 128 + 128)], rfl, by go_num, str_snoc l (by omega) (by omega), by omega, by omega, by omega, by simp; omega, vm_step hv.out hm, hbel.alloc hbel.size _⟩
          case measure => simp [intOf]; omega
        · go_wp2
          go_roundw
          case rel => exact ⟨m / 128, k + 1, l ++ [by8 (m % 128)], rfl, by go_num, str_snoc l (by omega) (by omega), by omega, by omega, by omega, by simp; omega, vm_stop hv.out (by omega), hbel.alloc hbel.size _⟩
          case measure => simp [intOf]; omega
      · obtain rfl : z = k := by omega
        have hl := Lib.hid (show l = enc n by have := hv.out; simpa [vb] using this)
        go_wp2
        go_ret2
        exact ⟨ret2 (val_str hl.out) (val_int hp.out.symm), hbel⟩

theorem putC_bd (n : Int) : 0 ≤ putC n ∧ putC n ≤ 129 := by unfold putC; split <;> omega
end Go.Proofs.YtlnanenfpapfkaaDoor

/- The bytes of properties: plain. -/
namespace Go.Proofs.YtlnanenfpapfkaaDoor
set_option linter.unusedVariables false
open Go.RowKit Pl

def Pp.fits (p : Pp) : Prop := p.s.size ≤ 140737488351232 ∧ p.t.size ≤ 140737488351232 ∧ -9223372036854775808 ≤ p.id ∧ p.id ≤ 9223372036854775807 ∧ -9223372036854775808 ≤ p.n ∧ p.n ≤ 9223372036854775807
/-- How many bytes a number of a kind has. -/
def wid (k : Int) : Int := if k = 1 then 1 else if k = 2 then 2 else 4
/-- A value's code, and its bytes. -/
def pvC (p : Pp) : Int :=
  if kindOf p.id = 4 then putC p.n else if kindOf p.id = 5 then dataC p.s else if kindOf p.id = 6 then tputC p.s
  else if kindOf p.id = 7 then (if tputC p.s = 0 then tputC p.t else tputC p.s) else fixC (wid (kindOf p.id)) p.n
def pvS (p : Pp) : ByteArray :=
  if kindOf p.id = 4 then ⟨(enc p.n).toArray⟩ else if kindOf p.id = 5 then dataS p.s else if kindOf p.id = 6 then tputS p.s
  else if kindOf p.id = 7 then tputS p.s ++ tputS p.t else ⟨(fixS (wid (kindOf p.id)) p.n).toArray⟩
theorem pvC_bd (p : Pp) : 0 ≤ pvC p ∧ pvC p ≤ 149 := by
  unfold pvC
  have h1 := putC_bd p.n
  have h2 := dataC_bd p.s
  have h3 := tputC_bd p.s
  have h4 := tputC_bd p.t
  have h5 := fixC_bd (wid (kindOf p.id)) p.n
  repeat' split
  all_goals omega
theorem enc_small (n : Int) : (enc n).length ≤ 4 := by
  rw [enc_length]
  unfold sz
  repeat' split
  all_goals decide
theorem dataS_small (s : ByteArray) : (dataS s).size ≤ 65537 := by
  unfold dataS
  split
  · decide
  · rename_i h
    have := fixS_len 2 s.size
    rw [ByteArray.size_append]
    show (fixS 2 s.size).toArray.size + s.size ≤ 65537
    simp at this ⊢
    omega
theorem tputS_small (s : ByteArray) : (tputS s).size ≤ 65537 := by
  unfold tputS
  split
  · decide
  · exact dataS_small s
theorem pvS_small (p : Pp) : (pvS p).size ≤ 131074 := by
  unfold pvS
  split
  · have := enc_small p.n
    show (enc p.n).toArray.size ≤ _
    simp; omega
  · split
    · have := dataS_small p.s; omega
    · split
      · have := tputS_small p.s; omega
      · split
        · have h1 := tputS_small p.s
          have h2 := tputS_small p.t
          rw [ByteArray.size_append]; omega
        · have := fixS_len (wid (kindOf p.id)) p.n
          have h2 : (wid (kindOf p.id)).toNat ≤ 4 := by
            unfold wid
            repeat' split
            all_goals decide
          show (fixS (wid (kindOf p.id)) p.n).toArray.size ≤ _
          simp; omega
/-- Has one of the first k the identifier, which may stand but once? -/
def dup (L : List Pp) (k : Nat) (id : Int) : Bool := (L.take k).any (fun p => p.id == id) && (id != 38)
/-- The code at one more. -/
def stp (L : List Pp) (k : Nat) (p : Pp) : Int := if kindOf p.id = 0 then 129 else if dup L k p.id = true then 130 else pvC p
def one (p : Pp) : ByteArray := ⟨(enc p.id).toArray⟩ ++ pvS p
def putK (L : List Pp) : Nat → ByteArray
  | 0 => ⟨#[]⟩
  | k + 1 => match L[k]? with | some p => putK L k ++ one p | none => putK L k
def codK (L : List Pp) : Nat → Int
  | 0 => 0
  | k + 1 => if codK L k = 0 then (match L[k]? with | some p => stp L k p | none => 0) else codK L k
theorem put_succ {L : List Pp} {k : Nat} {p : Pp} (h : L[k]? = some p) : putK L (k + 1) = putK L k ++ one p := by
  show (match L[k]? with | some p => putK L k ++ one p | none => putK L k) = _
  rw [h]
theorem cod_succ {L : List Pp} {k : Nat} {p : Pp} (h : L[k]? = some p) (h0 : codK L k = 0) : codK L (k + 1) = stp L k p := by
  show (if codK L k = 0 then (match L[k]? with | some p => stp L k p | none => 0) else codK L k) = _
  rw [if_pos h0, h]
theorem cod_stays {L : List Pp} {k : Nat} (h : codK L k ≠ 0) : ∀ d, codK L (k + d) = codK L k
  | 0 => rfl
  | d + 1 => by
    have ih := cod_stays h d
    show (if codK L (k + d) = 0 then (match L[k + d]? with | some p => stp L (k + d) p | none => 0) else codK L (k + d)) = _
    rw [ih, if_neg h]
theorem cod_last {L : List Pp} {k n : Nat} {c : Int} (h : codK L k = c) (hc : c ≠ 0) (hk : k ≤ n) : codK L n = c := by
  obtain ⟨d, rfl⟩ : ∃ d, n = k + d := ⟨n - k, by omega⟩
  rw [cod_stays (by rw [h]; exact hc), h]
theorem one_small (p : Pp) : (one p).size ≤ 131078 := by
  unfold one
  rw [ByteArray.size_append]
  have h1 := enc_small p.id
  have h2 := pvS_small p
  show (enc p.id).toArray.size + _ ≤ _
  simp only [List.size_toArray]
  omega
theorem put_small (L : List Pp) : ∀ k, (putK L k).size ≤ k * 131078
  | 0 => by simp [putK]; rfl
  | k + 1 => by
    have ih := put_small L k
    show (match L[k]? with | some p => putK L k ++ one p | none => putK L k).size ≤ _
    split
    · rename_i p _
      have := one_small p
      rw [ByteArray.size_append, Nat.succ_mul]; exact Nat.add_le_add ih this
    · exact Nat.le_trans ih (Nat.mul_le_mul_right _ (Nat.le_succ k))
/-- The code of properties, and their bytes. -/
def ppC (L : List Pp) : Int := if 64 < L.length then 149 else codK L L.length
def ppS (L : List Pp) : ByteArray := if ppC L = 0 then ⟨(enc (putK L L.length).size).toArray⟩ ++ putK L L.length else ⟨#[]⟩
theorem pp_long {L : List Pp} (h : 64 < L.length) : ppC L = 149 ∧ ppS L = ⟨#[]⟩ := by
  have e : ppC L = 149 := by unfold ppC; rw [if_pos h]
  exact ⟨e, by unfold ppS; rw [e, if_neg (by decide)]⟩
theorem pp_bad {L : List Pp} {c : Int} (h : ¬ 64 < L.length) (hc : codK L L.length = c) (h0 : c ≠ 0) : ppC L = c ∧ ppS L = ⟨#[]⟩ := by
  have e : ppC L = c := by unfold ppC; rw [if_neg h, hc]
  exact ⟨e, by unfold ppS; rw [e, if_neg h0]⟩
theorem pp_ok {L : List Pp} (h : ¬ 64 < L.length) (hc : codK L L.length = 0) : ppC L = 0 ∧ ppS L = ⟨(enc (putK L L.length).size).toArray⟩ ++ putK L L.length := by
  have e : ppC L = 0 := by unfold ppC; rw [if_neg h, hc]
  exact ⟨e, by unfold ppS; rw [e, if_pos rfl]⟩
theorem codK_bd (L : List Pp) : ∀ k, 0 ≤ codK L k ∧ codK L k ≤ 255
  | 0 => ⟨Int.le_refl 0, (by decide : (0 : Int) ≤ 255)⟩
  | k + 1 => by
    have ih := codK_bd L k
    show 0 ≤ (if codK L k = 0 then (match L[k]? with | some p => stp L k p | none => 0) else codK L k) ∧ (if codK L k = 0 then (match L[k]? with | some p => stp L k p | none => 0) else codK L k) ≤ 255
    split
    · split
      · rename_i p _
        have := pvC_bd p
        unfold stp
        split
        · decide
        · split
          · decide
          · omega
      · decide
    · exact ih
theorem ppC_bd (L : List Pp) : 0 ≤ ppC L ∧ ppC L ≤ 255 := by
  unfold ppC
  split
  · decide
  · exact codK_bd L _
theorem fits_take {L : List Pp} {M : Nat} (h : ∀ p ∈ L, p.fits) : ∀ p ∈ L.take M, p.fits := fun p hp => h p (List.mem_of_mem_take hp)
end Go.Proofs.YtlnanenfpapfkaaDoor

/- Plain facts: which properties packets of which kind may have; no program in sight. -/
namespace Go.Proofs.YtlnanenfpapfkaaDoor.Pl
/-- The identifiers of the properties that packets of a kind may have. -/
def allowL (k : Int) : List Int :=
  if k = 0 then [1, 2, 3, 8, 9, 24, 38] else
  if k = 1 then [17, 21, 22, 23, 25, 33, 34, 38, 39] else
  if k = 2 then [17, 18, 19, 21, 22, 26, 28, 31, 33, 34, 36, 37, 38, 39, 40, 41, 42] else
  if k = 3 then [1, 2, 3, 8, 9, 11, 35, 38] else
  if k = 4 then [31, 38] else
  if k = 5 then [31, 38] else
  if k = 6 then [31, 38] else
  if k = 7 then [31, 38] else
  if k = 8 then [11, 38] else
  if k = 9 then [31, 38] else
  if k = 10 then [38] else
  if k = 11 then [31, 38] else
  if k = 14 then [17, 28, 31, 38] else
  if k = 15 then [21, 22, 31, 38] else []
/-- May packets of a kind have a property? -/
def alw (k n : Int) : Bool := isIn n (allowL k)
theorem alw_other {k : Int} (n : Int) (h0 : (k == 0) = false) (h1 : (k == 1) = false) (h2 : (k == 2) = false) (h3 : (k == 3) = false) (h4 : (k == 4) = false) (h5 : (k == 5) = false) (h6 : (k == 6) = false) (h7 : (k == 7) = false) (h8 : (k == 8) = false) (h9 : (k == 9) = false) (h10 : (k == 10) = false) (h11 : (k == 11) = false) (h14 : (k == 14) = false) (h15 : (k == 15) = false) : alw k n = false := by
  simp only [beq_eq_false_iff_ne, ne_eq] at *
  unfold alw allowL
  simp [h0, h1, h2, h3, h4, h5, h6, h7, h8, h9, h10, h11, h14, h15, isIn]
theorem isIn_two (n a b : Int) : isIn n [a, b] = (n == a || n == b) := by
  by_cases h : n = a <;> by_cases h2 : n = b <;> simp [isIn, h, h2]
theorem isIn_one (n a : Int) : isIn n [a] = (n == a) := by
  by_cases h : n = a <;> simp [isIn, h]
theorem alw_2 (n : Int) : alw 2 n = (isIn n [17, 18, 19, 21, 22, 26, 28, 31, 33, 34] || (decide (36 ≤ n) && decide (n ≤ 42))) := by
  unfold alw
  show isIn n [17, 18, 19, 21, 22, 26, 28, 31, 33, 34, 36, 37, 38, 39, 40, 41, 42] = _
  by_cases h : 36 ≤ n ∧ n ≤ 42
  · obtain rfl | rfl | rfl | rfl | rfl | rfl | rfl : n = 36 ∨ n = 37 ∨ n = 38 ∨ n = 39 ∨ n = 40 ∨ n = 41 ∨ n = 42 := by omega
    all_goals decide
  · have e : (decide (36 ≤ n) && decide (n ≤ 42)) = false := by
      rw [Bool.and_eq_false_iff]
      simp only [decide_eq_false_iff_not]
      omega
    rw [e, Bool.or_false]
    unfold isIn
    congr 1
    simp only [List.mem_cons, List.not_mem_nil, or_false, eq_iff_iff]
    omega
end Go.Proofs.YtlnanenfpapfkaaDoor.Pl

/- The bytes of a packet: plain. -/
namespace Go.Proofs.YtlnanenfpapfkaaDoor
set_option linter.unusedVariables false
open Go.RowKit Pl

/-- Bytes so far, and the first code. -/
structure Ot where
  s : ByteArray
  c : Int
def mix (c d : Int) : Int := if c = 0 then d else c
def Ot.add (o : Ot) (t : ByteArray) (d : Int) : Ot := ⟨o.s ++ t, mix o.c d⟩
def Ot.fail (o : Ot) (d : Int) : Ot := ⟨o.s, mix o.c d⟩
theorem mix_bd {c d : Int} (h : 0 ≤ c ∧ c ≤ 255) (h2 : 0 ≤ d ∧ d ≤ 255) : 0 ≤ mix c d ∧ mix c d ≤ 255 := by unfold mix; split; exact h2; exact h
theorem add_empty (o : Ot) (d : Int) : o.add ⟨#[]⟩ d = o.fail d := by
  unfold Ot.add Ot.fail
  congr 1
  apply ByteArray.ext
  rw [ByteArray.data_append]
  simp
def wNum (k : Int) (o : Ot) (n : Int) : Ot := o.add ⟨(fixS k n).toArray⟩ (fixC k n)
def wText (o : Ot) (t : ByteArray) : Ot := o.add (tputS t) (tputC t)
def wData (o : Ot) (t : ByteArray) : Ot := o.add (dataS t) (dataC t)
def wQos (o : Ot) (n : Int) : Ot := if n < 0 ∨ 2 < n then o.fail 129 else o
def wId (o : Ot) (n : Int) : Ot := if n < 1 ∨ 65535 < n then o.fail 130 else wNum 2 o n
/-- Are all properties such as packets of a kind may have? -/
def okAll (k : Int) (L : List Pp) : Bool := !L.any (fun p => !alw k p.id)
def wProps (k : Int) (o : Ot) (L : List Pp) : Ot := if okAll k L = true then o.add (ppS L) (ppC L) else (o.add (ppS L) (ppC L)).fail 130
def wSome (o : Ot) (n : Int) : Ot := if n = 0 then o.fail 130 else if 64 < n then o.fail 149 else o
def bt1 (b : Bool) (n : Int) : Int := if b = true then n else 0
/-- One filter of a SUBSCRIBE. -/
structure Sb where
  f : ByteArray
  q : Int
  nl : Bool
  ap : Bool
  h : Int
structure Pk where
  kind : Int
  dup : Bool
  ret : Bool
  q : Int
  id : Int
  topic : ByteArray
  payload : ByteArray
  code : Int
  codes : List Int
  ps : List Pp
  client : ByteArray
  clean : Bool
  keep : Int
  hasWill : Bool
  wt : ByteArray
  wp : ByteArray
  wq : Int
  wr : Bool
  wps : List Pp
  hasUser : Bool
  hasPass : Bool
  user : ByteArray
  pass : ByteArray
  session : Bool
  subs : List Sb
  filters : List ByteArray
def name5 : ByteArray := ⟨#[77, 81, 84, 84]⟩
def cFlags (p : Pk) : Int := bt1 p.clean 2 + bt1 p.hasPass 64 + bt1 p.hasUser 128 + (if p.hasWill = true then 4 + 8 * (p.wq % 4) + bt1 p.wr 32 else 0)
def cHead (o : Ot) (p : Pk) : Ot := wText (wProps 1 (wNum 2 (wNum 1 (if p.hasWill = true then wQos (wNum 1 (wText o name5) 5) p.wq else wNum 1 (wText o name5) 5) (cFlags p)) p.keep) p.ps) p.client
def cWill (o : Ot) (p : Pk) : Ot := if p.hasWill = true then wData (wText (wProps 0 o p.wps) p.wt) p.wp else o
def cUser (o : Ot) (p : Pk) : Ot := if p.hasUser = true then wText o p.user else o
def cPass (o : Ot) (p : Pk) : Ot := if p.hasPass = true then wData o p.pass else o
def wConnect (o : Ot) (p : Pk) : Ot := cPass (cUser (cWill (cHead o p) p) p) p
def wPublish (o : Ot) (p : Pk) : Ot := (wProps 3 (if 0 < p.q then wId (wText o p.topic) p.id else wText o p.topic) p.ps).add p.payload 0
def wEnd (o : Ot) (p : Pk) : Ot :=
  if p.ps.length = 0 then (if p.code = 0 then o else wNum 1 o p.code) else wProps p.kind (wNum 1 o p.code) p.ps
def sByte (x : Sb) : Int := x.q % 4 + bt1 x.nl 4 + bt1 x.ap 8 + 16 * (x.h % 4)
def wSub (o : Ot) (x : Sb) : Ot := wNum 1 (wQos (wQos (wText o x.f) x.q) x.h) (sByte x)
def wSubs (o : Ot) (l : List Sb) : Ot := (l.take 64).foldl wSub (wSome o l.length)
def wFilters (o : Ot) (l : List ByteArray) : Ot := (l.take 64).foldl wText (wSome o l.length)
/-- The codes: all of them; the document's: as many as may be. -/
def wCodes (o : Ot) (l : List Int) : Ot := l.foldl (wNum 1) (wSome o l.length)
def wCodes' (o : Ot) (l : List Int) : Ot := (l.take 64).foldl (wNum 1) (wSome o l.length)
def wLists (o : Ot) (p : Pk) : Ot :=
  if p.kind = 8 then wSubs (wProps p.kind (wId o p.id) p.ps) p.subs else if p.kind = 10 then wFilters (wProps p.kind (wId o p.id) p.ps) p.filters else wCodes (wProps p.kind (wId o p.id) p.ps) p.codes
def wLists' (o : Ot) (p : Pk) : Ot :=
  if p.kind = 8 then wSubs (wProps p.kind (wId o p.id) p.ps) p.subs else if p.kind = 10 then wFilters (wProps p.kind (wId o p.id) p.ps) p.filters else wCodes' (wProps p.kind (wId o p.id) p.ps) p.codes
def wConnack (o : Ot) (p : Pk) : Ot := wProps 2 (wNum 1 (wNum 1 o (bt1 p.session 1)) p.code) p.ps
def wBody (o : Ot) (p : Pk) : Ot :=
  if p.kind = 1 then wConnect o p else if p.kind = 2 then wConnack o p else if p.kind = 3 then wPublish o p
  else if p.kind = 4 ∨ p.kind = 5 ∨ p.kind = 6 ∨ p.kind = 7 then wEnd (wId o p.id) p
  else if p.kind = 14 ∨ p.kind = 15 then wEnd o p
  else if p.kind = 8 ∨ p.kind = 9 ∨ p.kind = 10 ∨ p.kind = 11 then wLists o p else o
def kFlags (k : Int) : Int := if k = 6 ∨ k = 8 ∨ k = 10 then 2 else 0
def pFlags (p : Pk) : Int := if p.kind = 3 then bt1 p.dup 8 + 2 * (p.q % 4) + bt1 p.ret 1 else kFlags p.kind
/-- What a Publish asks of its flags. -/
def wHead (p : Pk) : Ot := if p.kind = 3 then (if p.dup = true ∧ p.q = 0 then (wQos ⟨⟨#[]⟩, 0⟩ p.q).fail 129 else wQos ⟨⟨#[]⟩, 0⟩ p.q) else ⟨⟨#[]⟩, 0⟩
def wAll (p : Pk) : Ot := wBody (wHead p) p
def pkC (p : Pk) : Int := if p.kind < 1 ∨ 15 < p.kind then 129 else if (wAll p).c ≠ 0 then (wAll p).c else if 65536 < (wAll p).s.size then 149 else 0
def pkS (p : Pk) : ByteArray := if pkC p = 0 then ⟨(fixS 1 (16 * p.kind + pFlags p)).toArray⟩ ++ ⟨(enc (wAll p).s.size).toArray⟩ ++ (wAll p).s else ⟨#[]⟩
/-! Sizes. -/
theorem add_size (o : Ot) (t : ByteArray) (d : Int) : (o.add t d).s.size = o.s.size + t.size := ByteArray.size_append
theorem fail_size (o : Ot) (d : Int) : (o.fail d).s.size = o.s.size := rfl
theorem num_size (k : Int) (o : Ot) (n : Int) : (wNum k o n).s.size ≤ o.s.size + k.toNat := by
  have := fixS_len k n
  unfold wNum
  rw [add_size]
  show o.s.size + (fixS k n).toArray.size ≤ _
  simp; omega
theorem text_size (o : Ot) (t : ByteArray) : (wText o t).s.size ≤ o.s.size + 65537 := by have := tputS_small t; unfold wText; rw [add_size]; omega
theorem data_size (o : Ot) (t : ByteArray) : (wData o t).s.size ≤ o.s.size + 65537 := by have := dataS_small t; unfold wData; rw [add_size]; omega
theorem qos_size (o : Ot) (n : Int) : (wQos o n).s.size = o.s.size := by unfold wQos; split <;> rfl
theorem id_size (o : Ot) (n : Int) : (wId o n).s.size ≤ o.s.size + 2 := by
  unfold wId
  split
  · exact Nat.le_add_right _ _
  · exact num_size 2 o n
theorem ppS_small (L : List Pp) : (ppS L).size ≤ 8389000 := by
  by_cases h64 : 64 < L.length
  · rw [(pp_long h64).2]; decide
  · by_cases hc : codK L L.length = 0
    · rw [(pp_ok h64 hc).2, ByteArray.size_append]
      have := put_small L L.length
      have h2 := enc_small (putK L L.length).size
      show (enc (putK L L.length).size).toArray.size + _ ≤ _
      simp only [List.size_toArray]
      omega
    · rw [(pp_bad h64 rfl hc).2]; decide
theorem props_size (k : Int) (o : Ot) (L : List Pp) : (wProps k o L).s.size ≤ o.s.size + 8389000 := by
  have := ppS_small L
  unfold wProps
  split
  · rw [add_size]; omega
  · rw [fail_size, add_size]; omega
theorem some_size (o : Ot) (n : Int) : (wSome o n).s.size = o.s.size := by
  unfold wSome
  split
  · rfl
  · split <;> rfl
theorem sub_size (o : Ot) (x : Sb) : (wSub o x).s.size ≤ o.s.size + 65538 := by
  have h1 := num_size 1 (wQos (wQos (wText o x.f) x.q) x.h) (sByte x)
  rw [qos_size, qos_size] at h1
  have h2 := text_size o x.f
  unfold wSub
  have : (1 : Int).toNat = 1 := rfl
  omega
/-! Codes. -/
theorem add_bd {o : Ot} {t : ByteArray} {d : Int} (h : 0 ≤ o.c ∧ o.c ≤ 255) (h2 : 0 ≤ d ∧ d ≤ 255) : 0 ≤ (o.add t d).c ∧ (o.add t d).c ≤ 255 := mix_bd h h2
theorem fail_bd {o : Ot} {d : Int} (h : 0 ≤ o.c ∧ o.c ≤ 255) (h2 : 0 ≤ d ∧ d ≤ 255) : 0 ≤ (o.fail d).c ∧ (o.fail d).c ≤ 255 := mix_bd h h2
theorem num_bd {k : Int} {o : Ot} {n : Int} (h : 0 ≤ o.c ∧ o.c ≤ 255) : 0 ≤ (wNum k o n).c ∧ (wNum k o n).c ≤ 255 := add_bd h (by have := fixC_bd k n; omega)
theorem text_bd {o : Ot} {t : ByteArray} (h : 0 ≤ o.c ∧ o.c ≤ 255) : 0 ≤ (wText o t).c ∧ (wText o t).c ≤ 255 := add_bd h (by have := tputC_bd t; omega)
theorem data_bd {o : Ot} {t : ByteArray} (h : 0 ≤ o.c ∧ o.c ≤ 255) : 0 ≤ (wData o t).c ∧ (wData o t).c ≤ 255 := add_bd h (by have := dataC_bd t; omega)
theorem qos_bd {o : Ot} {n : Int} (h : 0 ≤ o.c ∧ o.c ≤ 255) : 0 ≤ (wQos o n).c ∧ (wQos o n).c ≤ 255 := by unfold wQos; split; exact fail_bd h (by decide); exact h
theorem id_bd {o : Ot} {n : Int} (h : 0 ≤ o.c ∧ o.c ≤ 255) : 0 ≤ (wId o n).c ∧ (wId o n).c ≤ 255 := by unfold wId; split; exact fail_bd h (by decide); exact num_bd h
theorem props_bd {k : Int} {o : Ot} {L : List Pp} (h : 0 ≤ o.c ∧ o.c ≤ 255) : 0 ≤ (wProps k o L).c ∧ (wProps k o L).c ≤ 255 := by
  unfold wProps
  split
  · exact add_bd h (ppC_bd L)
  · exact fail_bd (add_bd h (ppC_bd L)) (by decide)
theorem some_bd {o : Ot} {n : Int} (h : 0 ≤ o.c ∧ o.c ≤ 255) : 0 ≤ (wSome o n).c ∧ (wSome o n).c ≤ 255 := by
  unfold wSome
  split
  · exact fail_bd h (by decide)
  · split
    · exact fail_bd h (by decide)
    · exact h
end Go.Proofs.YtlnanenfpapfkaaDoor
