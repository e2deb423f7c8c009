/- Parts of the proof, joined: CharAny, RefFault, FixPlain, Fix, GetFix, DataPlain, Data, TextPut, VarPlain, VarSize, VarPut. -/
import Derived.Test.YtedapgeabpadaaaDoorH6P1
import Derived.Test.YtedapgeabpadaaaDoorRows
import Derived.WalkLawsBesides
import Derived.WalkSpells
import Derived.Handy
import Derived.WalkKit
import Derived.Lib.Hide
/- The contract of the document's Char: nx. -/
namespace Go.Proofs.YtedapgeabpadaaaDoor
open Go.RowKit Pl Go.Shelf
open Go.PlainAid (bt bt_nonneg bt_le get_bt bt_end)

theorem nx_rest {s : ByteArray} {a : Nat} (h : ¬ (1 ≤ bt s a ∧ bt s a ≤ 127)) : nx s a =
    if 194 ≤ bt s a ∧ bt s a ≤ 223 ∧ tl s (a + 1) 128 191 = true then 2
    else if 224 ≤ bt s a ∧ bt s a ≤ 239 ∧ tl s (a + 1) 128 191 = true ∧ tl s (a + 2) 128 191 = true then
      (if (bt s a = 224 ∧ tl s (a + 1) 160 191 = false) ∨ (bt s a = 237 ∧ tl s (a + 1) 128 159 = false) then 0 else 3)
    else if 240 ≤ bt s a ∧ bt s a ≤ 244 ∧ tl s (a + 1) 128 191 = true ∧ tl s (a + 2) 128 191 = true ∧ tl s (a + 3) 128 191 = true then
      (if (bt s a = 240 ∧ tl s (a + 1) 144 191 = false) ∨ (bt s a = 244 ∧ tl s (a + 1) 128 143 = false) then 0 else 4)
    else 0 := by unfold nx; rw [if_neg h]

theorem char_any (s : ByteArray) (a : Nat) (ha : a < s.size) (w : World) (hs : s.size ≤ 281474976710656) :
    Calls Tryd.prog 119 #[.string s, .int .i64 a] w fun e w' => e = .returned (.int .i64 (nx s a)) ∧ w = w' := by
  have hb0 := bt_nonneg s a
  have hb1 := bt_le s a
  have key : ∀ n : Nat, nx s a = n → (Calls Tryd.prog 119 #[.string s, .int .i64 a] w fun e w' => e = .returned (.int .i64 (n : Int)) ∧ w = w') → Calls Tryd.prog 119 #[.string s, .int .i64 a] w fun e w' => e = .returned (.int .i64 (nx s a)) ∧ w = w' := by
    intro n h hc
    rw [h]
    exact hc
  by_cases c1 : 1 ≤ bt s a ∧ bt s a ≤ 127
  · exact key 1 (by unfold nx; rw [if_pos c1]) (char_1 s a ha w hs c1.1 c1.2)
  · have u1 := nx_rest c1
    by_cases c0 : bt s a = 0
    · exact key 0 (by rw [u1, if_neg (by omega), if_neg (by omega), if_neg (by omega)]) (char_0a s a ha w hs c0)
    · by_cases cb : bt s a ≤ 193
      · exact key 0 (by rw [u1, if_neg (by omega), if_neg (by omega), if_neg (by omega)]) (char_0b s a ha w hs (by omega) cb)
      · by_cases cc : 245 ≤ bt s a
        · exact key 0 (by rw [u1, if_neg (by omega), if_neg (by omega), if_neg (by omega)]) (char_0c s a ha w hs cc)
        · by_cases c2 : bt s a ≤ 223
          · cases t1 : tl s (a + 1) 128 191
            · exact key 0 (by rw [u1, if_neg (by rw [t1]; simp), if_neg (by omega), if_neg (by omega)]) (char_2n s a ha w hs (by omega) c2 t1)
            · exact key 2 (by rw [u1, if_pos ⟨by omega, c2, t1⟩]) (char_2 s a ha w hs (by omega) c2 t1)
          · have u2 := u1
            rw [if_neg (show ¬ (194 ≤ bt s a ∧ bt s a ≤ 223 ∧ tl s (a + 1) 128 191 = true) by omega)] at u2
            by_cases c3 : bt s a ≤ 239
            · rw [if_neg (show ¬ (240 ≤ bt s a ∧ bt s a ≤ 244 ∧ tl s (a + 1) 128 191 = true ∧ tl s (a + 2) 128 191 = true ∧ tl s (a + 3) 128 191 = true) by omega)] at u2
              cases t1 : tl s (a + 1) 128 191
              · exact key 0 (by rw [u2, if_neg (by rw [t1]; simp)]) (char_3n1 s a ha w hs (by omega) c3 t1)
              · cases t2 : tl s (a + 2) 128 191
                · exact key 0 (by rw [u2, if_neg (by rw [t2]; simp)]) (char_3n2 s a ha w hs (by omega) c3 t1 t2)
                · rw [if_pos ⟨by omega, c3, t1, t2⟩] at u2
                  by_cases e1 : bt s a = 224
                  · cases t4 : tl s (a + 1) 160 191
                    · exact key 0 (by rw [u2, if_pos (.inl ⟨e1, t4⟩)]) (char_3_224_false s a ha w hs (by omega) c3 t1 t2 e1 t4)
                    · exact key 3 (by rw [u2, if_neg (by rw [t4]; rintro (⟨_, h⟩ | ⟨h, _⟩); exact absurd h (by simp); omega)]) (char_3_224_true s a ha w hs (by omega) c3 t1 t2 e1 t4)
                  · by_cases e2 : bt s a = 237
                    · cases t4 : tl s (a + 1) 128 159
                      · exact key 0 (by rw [u2, if_pos (.inr ⟨e2, t4⟩)]) (char_3_237_false s a ha w hs (by omega) c3 t1 t2 e2 t4)
                      · exact key 3 (by rw [u2, if_neg (by rw [t4]; rintro (⟨h, _⟩ | ⟨_, h⟩); omega; exact absurd h (by simp))]) (char_3_237_true s a ha w hs (by omega) c3 t1 t2 e2 t4)
                    · exact key 3 (by rw [u2, if_neg (by rintro (⟨h, _⟩ | ⟨h, _⟩); exact e1 h; exact e2 h)]) (char_3 s a ha w hs (by omega) c3 t1 t2 (beq_eq_false_iff_ne.2 e1) (beq_eq_false_iff_ne.2 e2))
            · rw [if_neg (show ¬ (224 ≤ bt s a ∧ bt s a ≤ 239 ∧ tl s (a + 1) 128 191 = true ∧ tl s (a + 2) 128 191 = true) by omega)] at u2
              cases t1 : tl s (a + 1) 128 191
              · exact key 0 (by rw [u2, if_neg (by rw [t1]; simp)]) (char_4n1 s a ha w hs (by omega) (by omega) t1)
              · cases t2 : tl s (a + 2) 128 191
                · exact key 0 (by rw [u2, if_neg (by rw [t2]; simp)]) (char_4n2 s a ha w hs (by omega) (by omega) t1 t2)
                · cases t3 : tl s (a + 3) 128 191
                  · exact key 0 (by rw [u2, if_neg (by rw [t3]; simp)]) (char_4n3 s a ha w hs (by omega) (by omega) t1 t2 t3)
                  · rw [if_pos ⟨by omega, by omega, t1, t2, t3⟩] at u2
                    by_cases e1 : bt s a = 240
                    · cases t4 : tl s (a + 1) 144 191
                      · exact key 0 (by rw [u2, if_pos (.inl ⟨e1, t4⟩)]) (char_4_240_false s a ha w hs (by omega) (by omega) t1 t2 t3 e1 t4)
                      · exact key 4 (by rw [u2, if_neg (by rw [t4]; rintro (⟨_, h⟩ | ⟨h, _⟩); exact absurd h (by simp); omega)]) (char_4_240_true s a ha w hs (by omega) (by omega) t1 t2 t3 e1 t4)
                    · by_cases e2 : bt s a = 244
                      · cases t4 : tl s (a + 1) 128 143
                        · exact key 0 (by rw [u2, if_pos (.inr ⟨e2, t4⟩)]) (char_4_244_false s a ha w hs (by omega) (by omega) t1 t2 t3 e2 t4)
                        · exact key 4 (by rw [u2, if_neg (by rw [t4]; rintro (⟨h, _⟩ | ⟨_, h⟩); omega; exact absurd h (by simp))]) (char_4_244_true s a ha w hs (by omega) (by omega) t1 t2 t3 e2 t4)
                      · exact key 4 (by rw [u2, if_neg (by rintro (⟨h, _⟩ | ⟨h, _⟩); exact e1 h; exact e2 h)]) (char_4 s a ha w hs (by omega) (by omega) t1 t2 t3 (beq_eq_false_iff_ne.2 e1) (beq_eq_false_iff_ne.2 e2))
end Go.Proofs.YtedapgeabpadaaaDoor

/- The walks of the document's Fault. -/
namespace Go.Proofs.YtedapgeabpadaaaDoor
open Go.RowKit Pl Go.Shelf
open Go.PlainAid (bt bt_nonneg bt_le get_bt bt_end)

theorem reffault_any (s : ByteArray) (w : World) (hs : s.size ≤ 281474976710656) :
    Calls Tryd.prog 108 #[.string s] w fun e w' => e = .returned (.tuple #[.int .i64 (flt s s.size 0).1, .bool (flt s s.size 0).2]) ∧ w = w' := by
  go_enter Tryd.func108, Tryd.ntmps108
  go_wp2
  go_loop [4] (fun i => ∃ a f : Nat, i = .int .i64 a ∧ a ≤ s.size ∧ s.size ≤ a + f ∧ Hid (flt s s.size 0 = flt s f a)) (fun i => s.size - (intOf i).toNat)
  case atStart => exact ⟨0, s.size, rfl, by omega, by omega, rfl⟩
  case round =>
    obtain ⟨a, f, rfl, ha, hf, hv⟩ := hrel
    by_cases hlt : a < s.size
    · obtain ⟨n, hn⟩ : ∃ n, nx s a = n := ⟨_, rfl⟩
      have Hn := Lib.hid hn
      clear hn
      by_cases h0 : n = 0
      · have hr := Lib.hid (hv.out.trans (flt_bad hlt hf (Hn.out.trans h0)))
        subst h0
        go_wp2_with fail
        refine (char_any s a hlt _ hs).mono ?_
        rintro e w1 ⟨rfl, rfl⟩
        rw [Hn.out]
        go_wp2
        go_ret2
        exact ⟨ret2 (val_int (by rw [hr.out])) (val_bool (by rw [hr.out])), rfl⟩
      · have hne : ((n : Int) == 0) = false := by rw [beq_eq_false_iff_ne]; omega
        have hle : a + n ≤ s.size := by have := nx_le s a (by rw [Hn.out]; exact h0); rw [Hn.out] at this; exact this
        have hr := Lib.hid (hv.out.trans (flt_step hlt hf (by rw [Hn.out]; exact h0)))
        go_wp2_with fail
        refine (char_any s a hlt _ hs).mono ?_
        rintro e w1 ⟨rfl, rfl⟩
        rw [Hn.out]
        go_wp2
        go_round
        case rel => exact ⟨a + n, f - 1, by go_num, hle, by omega, by rw [hr.out, Hn.out]; exact Lib.hid rfl⟩
        case measure => simp [intOf]; omega
    · have hr := Lib.hid (hv.out.trans (flt_end (by omega)))
      go_wp2
      go_ret2
      exact ⟨ret2 (val_int (by rw [hr.out])) (val_bool (by rw [hr.out])), rfl⟩

end Go.Proofs.YtedapgeabpadaaaDoor

/- Plain facts about numbers of one, two or four bytes; no program in sight. -/
namespace Go.Proofs.YtedapgeabpadaaaDoor.Pl
open Go.PlainAid (bt bt_nonneg bt_le get_bt bt_end)

/-- The lowest r bytes of a number, the highest first. -/
def fb : Nat → Int → List UInt8
  | 0, _ => []
  | r + 1, n => by8 (n / 256 ^ r) :: fb r n
theorem fb_length (r : Nat) (n : Int) : (fb r n).length = r := by
  induction r with
  | zero => rfl
  | succ r ih => simp [fb, ih]
theorem by8_mod (n : Int) : by8 (n % 256) = by8 n := by unfold by8; rw [Int.emod_emod_of_dvd n (Int.dvd_refl 256)]
/-- One, two or four bytes. -/
def Wide (w : Int) : Prop := w = 1 ∨ w = 2 ∨ w = 4
instance (w : Int) : Decidable (Wide w) := by unfold Wide; infer_instance
def fixC (w n : Int) : Int := if ¬ Wide w then 128 else if n < 0 ∨ 256 ^ w.toNat ≤ n then 129 else 0
def fixS (w n : Int) : List UInt8 := if fixC w n = 0 then fb w.toNat n else []
theorem fixC_bd (w n : Int) : 0 ≤ fixC w n ∧ fixC w n ≤ 129 := by
  unfold fixC
  repeat' split
  all_goals omega
theorem fix_bad {w n : Int} (h : ¬ Wide w) : fixC w n = 128 ∧ fixS w n = [] := by
  have h1 : fixC w n = 128 := by unfold fixC; rw [if_pos h]
  exact ⟨h1, by unfold fixS; rw [h1]; rfl⟩
theorem fix_out {w n : Int} (h : Wide w) (hn : n < 0 ∨ 256 ^ w.toNat ≤ n) : fixC w n = 129 ∧ fixS w n = [] := by
  have h1 : fixC w n = 129 := by unfold fixC; rw [if_neg (not_not_intro h), if_pos hn]
  exact ⟨h1, by unfold fixS; rw [h1]; rfl⟩
theorem fix_in {w n : Int} (h : Wide w) (h0 : 0 ≤ n) (h1 : n < 256 ^ w.toNat) : fixC w n = 0 ∧ fixS w n = fb w.toNat n := by
  have h2 : fixC w n = 0 := by unfold fixC; rw [if_neg (not_not_intro h), if_neg (by omega)]
  exact ⟨h2, by unfold fixS; rw [h2]; rfl⟩

/-- The number of the first k bytes at a place. -/
def gv (s : ByteArray) (a : Nat) : Nat → Int
  | 0 => 0
  | k + 1 => gv s a k * 256 + bt s (a + k)
theorem gv_bd (s : ByteArray) (a : Nat) : ∀ k, 0 ≤ gv s a k ∧ gv s a k < 256 ^ k
  | 0 => ⟨Int.le_refl _, by show (0 : Int) < 1; decide⟩
  | k + 1 => by
    have ⟨h0, h1⟩ := gv_bd s a k
    have hb0 := bt_nonneg s (a + k)
    have hb1 := bt_le s (a + k)
    simp only [gv, Int.pow_succ]
    omega
theorem gv_bd3 (s : ByteArray) (a k : Nat) (h : k ≤ 3) : gv s a k < 16777216 := by
  have ⟨_, h1⟩ := gv_bd s a k
  obtain rfl | rfl | rfl | rfl : k = 0 ∨ k = 1 ∨ k = 2 ∨ k = 3 := by omega
  all_goals (simp at h1; omega)
/-- The number of so many bytes at a place: the number, the place behind it, the code. -/
def getF (s : ByteArray) (at_ w : Int) : Int × Int × Int :=
  if ¬ Wide w ∨ at_ < 0 ∨ (s.size : Int) < at_ then (0, 0, 128) else if (s.size : Int) - at_ < w then (0, 0, 242) else (gv s at_.toNat w.toNat, at_ + w, 0)
theorem getF_bad {s : ByteArray} {at_ w : Int} (h : ¬ Wide w ∨ at_ < 0 ∨ (s.size : Int) < at_) : getF s at_ w = (0, 0, 128) := by unfold getF; rw [if_pos h]
theorem getF_none {s : ByteArray} {at_ w : Int} (h : ¬ (¬ Wide w ∨ at_ < 0 ∨ (s.size : Int) < at_)) (h2 : (s.size : Int) - at_ < w) : getF s at_ w = (0, 0, 242) := by unfold getF; rw [if_neg h, if_pos h2]
theorem getF_ok {s : ByteArray} {a : Nat} {w : Int} (h : Wide w) (h2 : (a : Int) + w ≤ s.size) : getF s a w = (gv s a w.toNat, a + w, 0) := by
  unfold getF
  have : 0 < w := by unfold Wide at h; omega
  rw [if_neg (by rintro (h3 | h3 | h3); exact h3 h; omega; omega), if_neg (by omega)]
  rfl
theorem getF_code (s : ByteArray) (at_ w : Int) : 0 ≤ (getF s at_ w).2.2 ∧ (getF s at_ w).2.2 ≤ 242 := by
  unfold getF
  repeat' split
  all_goals exact ⟨by simp, by simp⟩
theorem fx_div {m n : Int} {k : Nat} (h : m = n / 256 ^ k) : m / 256 = n / 256 ^ (k + 1) := by
  rw [h, Int.pow_succ, Int.ediv_ediv_of_nonneg (Int.pow_nonneg (by decide))]
theorem fx_cons {m n : Int} {k : Nat} {l : List UInt8} (h : m = n / 256 ^ k) (hl : l = fb k n) : by8 (m % 256) :: l = fb (k + 1) n := by
  rw [by8_mod, h, hl]
  rfl
end Go.Proofs.YtedapgeabpadaaaDoor.Pl

/- The walks of both Fixed functions and of both GetFixed functions. -/
namespace Go.Proofs.YtedapgeabpadaaaDoor
open Go.RowKit Pl
open Go.PlainAid (bt bt_nonneg bt_le get_bt bt_end)
theorem u8_info' : (Tryd.prog.info? 5).map (fun i => (i.zero, i.size, i.bytes)) = some (some (.int .u8 0), 1, 1) := by kernel_rfl
theorem ret_getf {k : IntKind} {p : Int × Int × Int} {x y z : Int} (h : p = (x, y, z)) :
    Ending.returned (.tuple #[.int .i64 x, .int .i64 y, .int k z]) = .returned (.tuple #[.int .i64 p.1, .int .i64 p.2.1, .int k p.2.2]) := by rw [h]
theorem ret_fix {k : IntKind} {w n c : Int} {l : List UInt8} (h : fixC w n = c ∧ fixS w n = l) :
    Ending.returned (.tuple #[.string ⟨l.toArray⟩, .int k c]) = .returned (.tuple #[.string ⟨(fixS w n).toArray⟩, .int k (fixC w n)]) := by rw [h.1, h.2]

set_option maxRecDepth 100000 in
theorem fixed_1 (n : Int) (w : World) (h0 : 0 ≤ n) (h1 : n < 256) :
    Calls Tryd.prog 28 #[.int .i64 1, .int .i64 n] w fun e w' => e = .returned (.tuple #[.string ⟨(fb 1 n).toArray⟩, .int .u8 0]) ∧ Below w.heap.size w w' := by
  obtain ⟨i0, hi, hz0, hz1, hz2⟩ := info_parts u8_info'
  go_enter Tryd.func28, Tryd.ntmps28
  go_wp2
  go_loopw [7, 6] (fun i b wr => ∃ (r : Nat) (q : Int) (l : List UInt8), i = .int .i64 q ∧ r ≤ 1 ∧ q = r - 1 ∧ wr.ownsRow w.heap.size 5 1 b (1 - r) (cells8 l) ∧ l ++ fb r n = fb 1 n ∧ Below w.heap.size w wr)
    (fun i _ _ => (intOf i + 1).toNat)
  case atStart => exact ⟨1, _, [], rfl, by omega, by omega, World.ownsRow_nil _ _ _ _, rfl, Below.refl _ _⟩
  case round =>
    obtain ⟨r, q, l, rfl, hr, hq, hown, hv', hbel⟩ := hrel
    have hv := Lib.hid hv'
    clear hv'
    obtain rfl | rfl := (show r = 0 ∨ r = 1 by omega)
    · have hq0 : q = -1 := by omega
      clear hq
      subst hq0
      have hc := run_string_own (P := Tryd.prog) 59 9 5 w.heap.size _ _ l Tryd.underlying59 Tryd.underlying5 Tryd.underlying9 hown
      have hl := Lib.hid (show l = fb 1 n by have := hv.out; simpa [fb] using this)
      go_wp2
      go_ret2
      exact ⟨ret2 (val_str hl.out) rfl, hbel⟩
    · have hq0 : q = 0 := by omega
      clear hq
      subst hq0
      go_wp2_with (at_builtin; refine wpList_push (.tmp 28) (.tmp 34) 59 5 i0 (.int .u8 0) 1 rfl rfl Tryd.underlying59 hi hz0 hz1 hz2 rfl w.heap.size _ 0 (cells8 l) (.int .u8 (n)) rfl rfl hown hbel hbel.size rfl (by simp [maxLen]) (by omega) ?_; intro v' w1 hown1 hbel1 hs1 hn1)
      go_wp2
      go_roundw
      case rel => exact ⟨0, 0 - 1, l ++ [by8 (n)], by go_num, by omega, by omega, by rw [← cells8_snoc l (n) (n) (by omega)]; exact hown1, by rw [← hv.out]; simp [fb], hbel1⟩
      case measure => simp [intOf]
set_option maxRecDepth 100000 in
theorem fixed_2 (n : Int) (w : World) (h0 : 0 ≤ n) (h1 : n < 65536) :
    Calls Tryd.prog 28 #[.int .i64 2, .int .i64 n] w fun e w' => e = .returned (.tuple #[.string ⟨(fb 2 n).toArray⟩, .int .u8 0]) ∧ Below w.heap.size w w' := by
  obtain ⟨i0, hi, hz0, hz1, hz2⟩ := info_parts u8_info'
  go_enter Tryd.func28, Tryd.ntmps28
  go_wp2
  go_loopw [7, 6] (fun i b wr => ∃ (r : Nat) (q : Int) (l : List UInt8), i = .int .i64 q ∧ r ≤ 2 ∧ q = r - 1 ∧ wr.ownsRow w.heap.size 5 1 b (2 - r) (cells8 l) ∧ l ++ fb r n = fb 2 n ∧ Below w.heap.size w wr)
    (fun i _ _ => (intOf i + 1).toNat)
  case atStart => exact ⟨2, _, [], rfl, by omega, by omega, World.ownsRow_nil _ _ _ _, rfl, Below.refl _ _⟩
  case round =>
    obtain ⟨r, q, l, rfl, hr, hq, hown, hv', hbel⟩ := hrel
    have hv := Lib.hid hv'
    clear hv'
    obtain rfl | rfl | rfl := (show r = 0 ∨ r = 1 ∨ r = 2 by omega)
    · have hq0 : q = -1 := by omega
      clear hq
      subst hq0
      have hc := run_string_own (P := Tryd.prog) 59 9 5 w.heap.size _ _ l Tryd.underlying59 Tryd.underlying5 Tryd.underlying9 hown
      have hl := Lib.hid (show l = fb 2 n by have := hv.out; simpa [fb] using this)
      go_wp2
      go_ret2
      exact ⟨ret2 (val_str hl.out) rfl, hbel⟩
    · have hq0 : q = 0 := by omega
      clear hq
      subst hq0
      go_wp2_with (at_builtin; refine wpList_push (.tmp 28) (.tmp 34) 59 5 i0 (.int .u8 0) 1 rfl rfl Tryd.underlying59 hi hz0 hz1 hz2 rfl w.heap.size _ 1 (cells8 l) (.int .u8 ((n) % 256)) rfl rfl hown hbel hbel.size rfl (by simp [maxLen]) (by omega) ?_; intro v' w1 hown1 hbel1 hs1 hn1)
      go_wp2
      go_roundw
      case rel => exact ⟨0, 0 - 1, l ++ [by8 (n)], by go_num, by omega, by omega, by rw [← cells8_snoc l (n) ((n) % 256) rfl]; exact hown1, by rw [← hv.out]; simp [fb], hbel1⟩
      case measure => simp [intOf]
    · have hq0 : q = 1 := by omega
      clear hq
      subst hq0
      go_wp2_with (at_builtin; refine wpList_push (.tmp 28) (.tmp 34) 59 5 i0 (.int .u8 0) 1 rfl rfl Tryd.underlying59 hi hz0 hz1 hz2 rfl w.heap.size _ 0 (cells8 l) (.int .u8 (n / 256)) rfl rfl hown hbel hbel.size rfl (by simp [maxLen]) (by omega) ?_; intro v' w1 hown1 hbel1 hs1 hn1)
      go_wp2
      go_roundw
      case rel => exact ⟨1, 1 - 1, l ++ [by8 (n / 256)], by go_num, by omega, by omega, by rw [← cells8_snoc l (n / 256) (n / 256) (by omega)]; exact hown1, by rw [← hv.out]; simp [fb], hbel1⟩
      case measure => simp [intOf]
set_option maxRecDepth 100000 in
theorem fixed_4 (n : Int) (w : World) (h0 : 0 ≤ n) (h1 : n < 4294967296) :
    Calls Tryd.prog 28 #[.int .i64 4, .int .i64 n] w fun e w' => e = .returned (.tuple #[.string ⟨(fb 4 n).toArray⟩, .int .u8 0]) ∧ Below w.heap.size w w' := by
  obtain ⟨i0, hi, hz0, hz1, hz2⟩ := info_parts u8_info'
  go_enter Tryd.func28, Tryd.ntmps28
  go_wp2
  go_loopw [7, 6] (fun i b wr => ∃ (r : Nat) (q : Int) (l : List UInt8), i = .int .i64 q ∧ r ≤ 4 ∧ q = r - 1 ∧ wr.ownsRow w.heap.size 5 1 b (4 - r) (cells8 l) ∧ l ++ fb r n = fb 4 n ∧ Below w.heap.size w wr)
    (fun i _ _ => (intOf i + 1).toNat)
  case atStart => exact ⟨4, _, [], rfl, by omega, by omega, World.ownsRow_nil _ _ _ _, rfl, Below.refl _ _⟩
  case round =>
    obtain ⟨r, q, l, rfl, hr, hq, hown, hv', hbel⟩ := hrel
    have hv := Lib.hid hv'
    clear hv'
    obtain rfl | rfl | rfl | rfl | rfl := (show r = 0 ∨ r = 1 ∨ r = 2 ∨ r = 3 ∨ r = 4 by omega)
    · have hq0 : q = -1 := by omega
      clear hq
      subst hq0
      have hc := run_string_own (P := Tryd.prog) 59 9 5 w.heap.size _ _ l Tryd.underlying59 Tryd.underlying5 Tryd.underlying9 hown
      have hl := Lib.hid (show l = fb 4 n by have := hv.out; simpa [fb] using this)
      go_wp2
      go_ret2
      exact ⟨ret2 (val_str hl.out) rfl, hbel⟩
    · have hq0 : q = 0 := by omega
      clear hq
      subst hq0
      go_wp2_with (at_builtin; refine wpList_push (.tmp 28) (.tmp 34) 59 5 i0 (.int .u8 0) 1 rfl rfl Tryd.underlying59 hi hz0 hz1 hz2 rfl w.heap.size _ 3 (cells8 l) (.int .u8 ((n) % 256)) rfl rfl hown hbel hbel.size rfl (by simp [maxLen]) (by omega) ?_; intro v' w1 hown1 hbel1 hs1 hn1)
      go_wp2
      go_roundw
      case rel => exact ⟨0, 0 - 1, l ++ [by8 (n)], by go_num, by omega, by omega, by rw [← cells8_snoc l (n) ((n) % 256) rfl]; exact hown1, by rw [← hv.out]; simp [fb], hbel1⟩
      case measure => simp [intOf]
    · have hq0 : q = 1 := by omega
      clear hq
      subst hq0
      go_wp2_with (at_builtin; refine wpList_push (.tmp 28) (.tmp 34) 59 5 i0 (.int .u8 0) 1 rfl rfl Tryd.underlying59 hi hz0 hz1 hz2 rfl w.heap.size _ 2 (cells8 l) (.int .u8 ((n / 256) % 256)) rfl rfl hown hbel hbel.size rfl (by simp [maxLen]) (by omega) ?_; intro v' w1 hown1 hbel1 hs1 hn1)
      go_wp2
      go_roundw
      case rel => exact ⟨1, 1 - 1, l ++ [by8 (n / 256)], by go_num, by omega, by omega, by rw [← cells8_snoc l (n / 256) ((n / 256) % 256) rfl]; exact hown1, by rw [← hv.out]; simp [fb], hbel1⟩
      case measure => simp [intOf]
    · have hq0 : q = 2 := by omega
      clear hq
      subst hq0
      go_wp2_with (at_builtin; refine wpList_push (.tmp 28) (.tmp 34) 59 5 i0 (.int .u8 0) 1 rfl rfl Tryd.underlying59 hi hz0 hz1 hz2 rfl w.heap.size _ 1 (cells8 l) (.int .u8 ((n / 65536) % 256)) rfl rfl hown hbel hbel.size rfl (by simp [maxLen]) (by omega) ?_; intro v' w1 hown1 hbel1 hs1 hn1)
      go_wp2
      go_roundw
      case rel => exact ⟨2, 2 - 1, l ++ [by8 (n / 65536)], by go_num, by omega, by omega, by rw [← cells8_snoc l (n / 65536) ((n / 65536) % 256) rfl]; exact hown1, by rw [← hv.out]; simp [fb], hbel1⟩
      case measure => simp [intOf]
    · have hq0 : q = 3 := by omega
      clear hq
      subst hq0
      go_wp2_with (at_builtin; refine wpList_push (.tmp 28) (.tmp 34) 59 5 i0 (.int .u8 0) 1 rfl rfl Tryd.underlying59 hi hz0 hz1 hz2 rfl w.heap.size _ 0 (cells8 l) (.int .u8 (n / 16777216)) rfl rfl hown hbel hbel.size rfl (by simp [maxLen]) (by omega) ?_; intro v' w1 hown1 hbel1 hs1 hn1)
      go_wp2
      go_roundw
      case rel => exact ⟨3, 3 - 1, l ++ [by8 (n / 16777216)], by go_num, by omega, by omega, by rw [← cells8_snoc l (n / 16777216) (n / 16777216) (by omega)]; exact hown1, by rw [← hv.out]; simp [fb], hbel1⟩
      case measure => simp [intOf]

set_option maxRecDepth 100000 in
theorem fixed_all (d n : Int) (w : World) : Calls Tryd.prog 28 #[.int .i64 d, .int .i64 n] w fun e w' => e = .returned (.tuple #[.string ⟨(fixS d n).toArray⟩, .int .u8 (fixC d n)]) ∧ Below w.heap.size w w' := by
  by_cases hw : Wide d
  · by_cases hn : n < 0 ∨ 256 ^ d.toNat ≤ n
    · have hf := Lib.hid (fix_out hw hn)
      rcases hw with rfl | rfl | rfl
      all_goals
        simp at hn
        go_enter Tryd.func28, Tryd.ntmps28
        go_wp2
        all_goals go_ret2
        all_goals exact ⟨ret_fix (l := []) hf.out, Below.refl _ _⟩
    · have hf := fix_in (w := d) (n := n) hw (by omega) (by omega)
      rw [hf.1, hf.2]
      rcases hw with rfl | rfl | rfl
      · exact fixed_1 n w (by omega) (by simp at hn; omega)
      · exact fixed_2 n w (by omega) (by simp at hn; omega)
      · exact fixed_4 n w (by omega) (by simp at hn; omega)
  · have hf := Lib.hid (fix_bad (n := n) hw)
    have h1 : (d == 1) = false := by rw [beq_eq_false_iff_ne]; rintro rfl; exact hw (.inl rfl)
    have h2 : (d == 2) = false := by rw [beq_eq_false_iff_ne]; rintro rfl; exact hw (.inr (.inl rfl))
    have h4 : (d == 4) = false := by rw [beq_eq_false_iff_ne]; rintro rfl; exact hw (.inr (.inr rfl))
    clear hw
    go_enter Tryd.func28, Tryd.ntmps28
    go_wp2
    all_goals go_ret2
    all_goals exact ⟨ret_fix (l := []) hf.out, Below.refl _ _⟩

end Go.Proofs.YtedapgeabpadaaaDoor

/- The walks of both GetFixed functions. -/
namespace Go.Proofs.YtedapgeabpadaaaDoor
open Go.RowKit Pl
open Go.PlainAid (bt bt_nonneg bt_le get_bt bt_end)

set_option maxRecDepth 100000 in
theorem getfixed_1 (s : ByteArray) (a : Nat) (w : World) (hs : s.size ≤ 140737488351232) (ha : a + 1 ≤ s.size) :
    Calls Tryd.prog 79 #[.string s, .int .i64 a, .int .i64 1] w fun e w' => e = .returned (.tuple #[.int .i64 (gv s a 1), .int .i64 (a + 1), .int .u8 0]) ∧ w = w' := by
  have hbt := get_bt s
  go_enter Tryd.func79, Tryd.ntmps79
  go_wp2
  go_loop [33, 9] (fun i v => ∃ k : Nat, i = .int .i64 k ∧ v = .int .i64 (gv s a k) ∧ k ≤ 1) (fun i _ => (1 - intOf i).toNat)
  case atStart => exact ⟨0, rfl, rfl, by omega⟩
  case round =>
    obtain ⟨k, rfl, rfl, hk⟩ := hrel
    by_cases hkw : k < 1
    · have hg0 := (gv_bd s a k).1
      have hg1 := gv_bd3 s a k (by omega)
      have hn := Lib.hid (show gv s a (k + 1) = gv s a k * 256 + bt s (a + k) from rfl)
      have hb0 := bt_nonneg s (a + k)
      have hb1 := bt_le s (a + k)
      have hor : bits .or .i64 (gv s a k * 256) (bt s (a + k)) = gv s a k * 256 + bt s (a + k) := by
        rw [show gv s a k * 256 = 2 ^ 8 * gv s a k from by omega]
        exact or_low 8 hb0 (by omega) hg0 (by omega)
      go_wp2
      go_round
      case rel => exact ⟨k + 1, by go_num, val_int hn.out.symm, by omega⟩
      case measure => simp [intOf]; omega
    · obtain rfl : k = 1 := by omega
      go_wp2
      go_ret3
      exact ⟨rfl, rfl⟩

set_option maxRecDepth 100000 in
theorem getfixed_2 (s : ByteArray) (a : Nat) (w : World) (hs : s.size ≤ 140737488351232) (ha : a + 2 ≤ s.size) :
    Calls Tryd.prog 79 #[.string s, .int .i64 a, .int .i64 2] w fun e w' => e = .returned (.tuple #[.int .i64 (gv s a 2), .int .i64 (a + 2), .int .u8 0]) ∧ w = w' := by
  have hbt := get_bt s
  go_enter Tryd.func79, Tryd.ntmps79
  go_wp2
  go_loop [33, 9] (fun i v => ∃ k : Nat, i = .int .i64 k ∧ v = .int .i64 (gv s a k) ∧ k ≤ 2) (fun i _ => (2 - intOf i).toNat)
  case atStart => exact ⟨0, rfl, rfl, by omega⟩
  case round =>
    obtain ⟨k, rfl, rfl, hk⟩ := hrel
    by_cases hkw : k < 2
    · have hg0 := (gv_bd s a k).1
      have hg1 := gv_bd3 s a k (by omega)
      have hn := Lib.hid (show gv s a (k + 1) = gv s a k * 256 + bt s (a + k) from rfl)
      have hb0 := bt_nonneg s (a + k)
      have hb1 := bt_le s (a + k)
      have hor : bits .or .i64 (gv s a k * 256) (bt s (a + k)) = gv s a k * 256 + bt s (a + k) := by
        rw [show gv s a k * 256 = 2 ^ 8 * gv s a k from by omega]
        exact or_low 8 hb0 (by omega) hg0 (by omega)
      go_wp2
      go_round
      case rel => exact ⟨k + 1, by go_num, val_int hn.out.symm, by omega⟩
      case measure => simp [intOf]; omega
    · obtain rfl : k = 2 := by omega
      go_wp2
      go_ret3
      exact ⟨rfl, rfl⟩

set_option maxRecDepth 100000 in
theorem getfixed_4 (s : ByteArray) (a : Nat) (w : World) (hs : s.size ≤ 140737488351232) (ha : a + 4 ≤ s.size) :
    Calls Tryd.prog 79 #[.string s, .int .i64 a, .int .i64 4] w fun e w' => e = .returned (.tuple #[.int .i64 (gv s a 4), .int .i64 (a + 4), .int .u8 0]) ∧ w = w' := by
  have hbt := get_bt s
  go_enter Tryd.func79, Tryd.ntmps79
  go_wp2
  go_loop [33, 9] (fun i v => ∃ k : Nat, i = .int .i64 k ∧ v = .int .i64 (gv s a k) ∧ k ≤ 4) (fun i _ => (4 - intOf i).toNat)
  case atStart => exact ⟨0, rfl, rfl, by omega⟩
  case round =>
    obtain ⟨k, rfl, rfl, hk⟩ := hrel
    by_cases hkw : k < 4
    · have hg0 := (gv_bd s a k).1
      have hg1 := gv_bd3 s a k (by omega)
      have hn := Lib.hid (show gv s a (k + 1) = gv s a k * 256 + bt s (a + k) from rfl)
      have hb0 := bt_nonneg s (a + k)
      have hb1 := bt_le s (a + k)
      have hor : bits .or .i64 (gv s a k * 256) (bt s (a + k)) = gv s a k * 256 + bt s (a + k) := by
        rw [show gv s a k * 256 = 2 ^ 8 * gv s a k from by omega]
        exact or_low 8 hb0 (by omega) hg0 (by omega)
      go_wp2
      go_round
      case rel => exact ⟨k + 1, by go_num, val_int hn.out.symm, by omega⟩
      case measure => simp [intOf]; omega
    · obtain rfl : k = 4 := by omega
      go_wp2
      go_ret3
      exact ⟨rfl, rfl⟩

set_option maxRecDepth 100000 in
theorem getfixed_all (s : ByteArray) (at_ d : Int) (w : World) (hs : s.size ≤ 140737488351232) (h0 : -9223372036854775808 ≤ at_) (h1 : at_ ≤ 9223372036854775807) :
    Calls Tryd.prog 79 #[.string s, .int .i64 at_, .int .i64 d] w fun e w' => e = .returned (.tuple #[.int .i64 (getF s at_ d).1, .int .i64 (getF s at_ d).2.1, .int .u8 (getF s at_ d).2.2]) ∧ w = w' := by
  by_cases hw : Wide d
  · by_cases hb : at_ < 0 ∨ (s.size : Int) < at_
    · have hg := Lib.hid (getF_bad (s := s) (at_ := at_) (w := d) (.inr hb))
      rcases hw with rfl | rfl | rfl
      all_goals
        go_enter Tryd.func79, Tryd.ntmps79
        go_wp2
        all_goals go_ret3
        all_goals exact ⟨ret_getf hg.out, rfl⟩
    · obtain ⟨a, rfl⟩ := Int.eq_ofNat_of_zero_le (show 0 ≤ at_ by omega)
      by_cases hr : (s.size : Int) - a < d
      · have hg := Lib.hid (getF_none (s := s) (at_ := a) (w := d) (by rintro (h | h); exact h hw; exact hb h) hr)
        have ha : a ≤ s.size := by omega
        clear hb
        rcases hw with rfl | rfl | rfl
        all_goals
          go_enter Tryd.func79, Tryd.ntmps79
          go_wp2
          all_goals go_ret3
          all_goals exact ⟨ret_getf hg.out, rfl⟩
      · rw [getF_ok hw (by omega)]
        rcases hw with rfl | rfl | rfl
        · exact getfixed_1 s a w hs (by omega)
        · exact getfixed_2 s a w hs (by omega)
        · exact getfixed_4 s a w hs (by omega)
  · have hg := Lib.hid (getF_bad (s := s) (at_ := at_) (w := d) (.inl hw))
    have h1 : (d == 1) = false := by rw [beq_eq_false_iff_ne]; rintro rfl; exact hw (.inl rfl)
    have h2 : (d == 2) = false := by rw [beq_eq_false_iff_ne]; rintro rfl; exact hw (.inr (.inl rfl))
    have h4 : (d == 4) = false := by rw [beq_eq_false_iff_ne]; rintro rfl; exact hw (.inr (.inr rfl))
    clear hw
    go_enter Tryd.func79, Tryd.ntmps79
    go_wp2
    all_goals go_ret3
    all_goals exact ⟨ret_getf hg.out, rfl⟩

set_option maxRecDepth 100000 in
theorem refgetfixed_1 (s : ByteArray) (a : Nat) (w : World) (hs : s.size ≤ 140737488351232) (ha : a + 1 ≤ s.size) :
    Calls Tryd.prog 85 #[.string s, .int .i64 a, .int .i64 1] w fun e w' => e = .returned (.tuple #[.int .i64 (gv s a 1), .int .i64 (a + 1), .int .i64 0]) ∧ w = w' := by
  have hbt := get_bt s
  go_enter Tryd.func85, Tryd.ntmps85
  go_wp2
  go_loop [11, 10] (fun i v => ∃ k : Nat, i = .int .i64 k ∧ v = .int .i64 (gv s a k) ∧ k ≤ 1) (fun i _ => (1 - intOf i).toNat)
  case atStart => exact ⟨0, rfl, rfl, by omega⟩
  case round =>
    obtain ⟨k, rfl, rfl, hk⟩ := hrel
    by_cases hkw : k < 1
    · have hg0 := (gv_bd s a k).1
      have hg1 := gv_bd3 s a k (by omega)
      have hn := Lib.hid (show gv s a (k + 1) = gv s a k * 256 + bt s (a + k) from rfl)
      have hb0 := bt_nonneg s (a + k)
      have hb1 := bt_le s (a + k)
      go_wp2
      go_round
      case rel => exact ⟨k + 1, by go_num, val_int hn.out.symm, by omega⟩
      case measure => simp [intOf]; omega
    · obtain rfl : k = 1 := by omega
      go_wp2
      go_ret3
      exact ⟨rfl, rfl⟩

set_option maxRecDepth 100000 in
theorem refgetfixed_2 (s : ByteArray) (a : Nat) (w : World) (hs : s.size ≤ 140737488351232) (ha : a + 2 ≤ s.size) :
    Calls Tryd.prog 85 #[.string s, .int .i64 a, .int .i64 2] w fun e w' => e = .returned (.tuple #[.int .i64 (gv s a 2), .int .i64 (a + 2), .int .i64 0]) ∧ w = w' := by
  have hbt := get_bt s
  go_enter Tryd.func85, Tryd.ntmps85
  go_wp2
  go_loop [11, 10] (fun i v => ∃ k : Nat, i = .int .i64 k ∧ v = .int .i64 (gv s a k) ∧ k ≤ 2) (fun i _ => (2 - intOf i).toNat)
  case atStart => exact ⟨0, rfl, rfl, by omega⟩
  case round =>
    obtain ⟨k, rfl, rfl, hk⟩ := hrel
    by_cases hkw : k < 2
    · have hg0 := (gv_bd s a k).1
      have hg1 := gv_bd3 s a k (by omega)
      have hn := Lib.hid (show gv s a (k + 1) = gv s a k * 256 + bt s (a + k) from rfl)
      have hb0 := bt_nonneg s (a + k)
      have hb1 := bt_le s (a + k)
      go_wp2
      go_round
      case rel => exact ⟨k + 1, by go_num, val_int hn.out.symm, by omega⟩
      case measure => simp [intOf]; omega
    · obtain rfl : k = 2 := by omega
      go_wp2
      go_ret3
      exact ⟨rfl, rfl⟩

set_option maxRecDepth 100000 in
theorem refgetfixed_4 (s : ByteArray) (a : Nat) (w : World) (hs : s.size ≤ 140737488351232) (ha : a + 4 ≤ s.size) :
    Calls Tryd.prog 85 #[.string s, .int .i64 a, .int .i64 4] w fun e w' => e = .returned (.tuple #[.int .i64 (gv s a 4), .int .i64 (a + 4), .int .i64 0]) ∧ w = w' := by
  have hbt := get_bt s
  go_enter Tryd.func85, Tryd.ntmps85
  go_wp2
  go_loop [11, 10] (fun i v => ∃ k : Nat, i = .int .i64 k ∧ v = .int .i64 (gv s a k) ∧ k ≤ 4) (fun i _ => (4 - intOf i).toNat)
  case atStart => exact ⟨0, rfl, rfl, by omega⟩
  case round =>
    obtain ⟨k, rfl, rfl, hk⟩ := hrel
    by_cases hkw : k < 4
    · have hg0 := (gv_bd s a k).1
      have hg1 := gv_bd3 s a k (by omega)
      have hn := Lib.hid (show gv s a (k + 1) = gv s a k * 256 + bt s (a + k) from rfl)
      have hb0 := bt_nonneg s (a + k)
      have hb1 := bt_le s (a + k)
      go_wp2
      go_round
      case rel => exact ⟨k + 1, by go_num, val_int hn.out.symm, by omega⟩
      case measure => simp [intOf]; omega
    · obtain rfl : k = 4 := by omega
      go_wp2
      go_ret3
      exact ⟨rfl, rfl⟩

set_option maxRecDepth 100000 in
theorem refgetfixed_all (s : ByteArray) (at_ d : Int) (w : World) (hs : s.size ≤ 140737488351232) (h0 : -9223372036854775808 ≤ at_) (h1 : at_ ≤ 9223372036854775807) :
    Calls Tryd.prog 85 #[.string s, .int .i64 at_, .int .i64 d] w fun e w' => e = .returned (.tuple #[.int .i64 (getF s at_ d).1, .int .i64 (getF s at_ d).2.1, .int .i64 (getF s at_ d).2.2]) ∧ w = w' := by
  by_cases hw : Wide d
  · by_cases hb : at_ < 0 ∨ (s.size : Int) < at_
    · have hg := Lib.hid (getF_bad (s := s) (at_ := at_) (w := d) (.inr hb))
      rcases hw with rfl | rfl | rfl
      all_goals
        go_enter Tryd.func85, Tryd.ntmps85
        go_wp2
        all_goals go_ret3
        all_goals exact ⟨ret_getf hg.out, rfl⟩
    · obtain ⟨a, rfl⟩ := Int.eq_ofNat_of_zero_le (show 0 ≤ at_ by omega)
      by_cases hr : (s.size : Int) - a < d
      · have hg := Lib.hid (getF_none (s := s) (at_ := a) (w := d) (by rintro (h | h); exact h hw; exact hb h) hr)
        have ha : a ≤ s.size := by omega
        clear hb
        rcases hw with rfl | rfl | rfl
        all_goals
          go_enter Tryd.func85, Tryd.ntmps85
          go_wp2
          all_goals go_ret3
          all_goals exact ⟨ret_getf hg.out, rfl⟩
      · rw [getF_ok hw (by omega)]
        rcases hw with rfl | rfl | rfl
        · exact refgetfixed_1 s a w hs (by omega)
        · exact refgetfixed_2 s a w hs (by omega)
        · exact refgetfixed_4 s a w hs (by omega)
  · have hg := Lib.hid (getF_bad (s := s) (at_ := at_) (w := d) (.inl hw))
    have h1 : (d == 1) = false := by rw [beq_eq_false_iff_ne]; rintro rfl; exact hw (.inl rfl)
    have h2 : (d == 2) = false := by rw [beq_eq_false_iff_ne]; rintro rfl; exact hw (.inr (.inl rfl))
    have h4 : (d == 4) = false := by rw [beq_eq_false_iff_ne]; rintro rfl; exact hw (.inr (.inr rfl))
    clear hw
    go_enter Tryd.func85, Tryd.ntmps85
    go_wp2
    all_goals go_ret3
    all_goals exact ⟨ret_getf hg.out, rfl⟩
end Go.Proofs.YtedapgeabpadaaaDoor

/- Plain facts about data; no program in sight. -/
namespace Go.Proofs.YtedapgeabpadaaaDoor.Pl
open Go.PlainAid (bt bt_nonneg bt_le get_bt bt_end)

def dataC (s : ByteArray) : Int := if 65535 < s.size then 149 else 0
def dataS (s : ByteArray) : ByteArray := if 65535 < s.size then ⟨#[]⟩ else ⟨(fixS 2 s.size).toArray⟩ ++ s
theorem data_big {s : ByteArray} (h : 65535 < s.size) : dataC s = 149 ∧ dataS s = ⟨#[]⟩ := by unfold dataC dataS; rw [if_pos h, if_pos h]; exact ⟨rfl, rfl⟩
theorem data_ok {s : ByteArray} (h : ¬ 65535 < s.size) : dataC s = 0 ∧ dataS s = ⟨(fixS 2 s.size).toArray⟩ ++ s := by unfold dataC dataS; rw [if_neg h, if_neg h]; exact ⟨rfl, rfl⟩
theorem dataC_bd (s : ByteArray) : 0 ≤ dataC s ∧ dataC s ≤ 149 := by
  unfold dataC
  split
  all_goals omega
theorem fixS_len (d n : Int) : (fixS d n).length ≤ d.toNat := by
  unfold fixS
  split
  · rw [fb_length]; omega
  · simp
/-- The data at a place: the data, the place behind it, the code. -/
def getD (s : ByteArray) (at_ : Int) : ByteArray × Int × Int :=
  if (getF s at_ 2).2.2 ≠ 0 then (⟨#[]⟩, 0, (getF s at_ 2).2.2)
  else if (s.size : Int) - (getF s at_ 2).2.1 < (getF s at_ 2).1 then (⟨#[]⟩, 0, 242)
  else (s.extract (getF s at_ 2).2.1.toNat ((getF s at_ 2).2.1 + (getF s at_ 2).1).toNat, (getF s at_ 2).2.1 + (getF s at_ 2).1, 0)
/-- What may come of the two bytes ahead. -/
theorem getF_two (s : ByteArray) (at_ : Int) : (getF s at_ 2 = (0, 0, 128)) ∨ (getF s at_ 2 = (0, 0, 242)) ∨ ∃ a m : Nat, at_ = a ∧ getF s at_ 2 = ((m : Int), ((a + 2 : Nat) : Int), 0) ∧ m < 65536 ∧ a + 2 ≤ s.size := by
  by_cases h : ¬ Wide 2 ∨ at_ < 0 ∨ (s.size : Int) < at_
  · exact .inl (getF_bad h)
  · by_cases h2 : (s.size : Int) - at_ < 2
    · exact .inr (.inl (getF_none h h2))
    · have h0 : 0 ≤ at_ := by
        by_cases h3 : at_ < 0
        · exact absurd (.inr (.inl h3)) h
        · omega
      obtain ⟨a, rfl⟩ := Int.eq_ofNat_of_zero_le h0
      have hb := gv_bd s a 2
      obtain ⟨m, hm⟩ := Int.eq_ofNat_of_zero_le hb.1
      refine .inr (.inr ⟨a, m, rfl, ?_, ?_, by omega⟩)
      · rw [getF_ok (.inr (.inl rfl)) (by omega)]
        show (gv s a 2, (a : Int) + 2, (0 : Int)) = _
        rw [hm]
        simp
      · have := hb.2
        rw [hm] at this
        simp at this
        omega
theorem getD_code {s : ByteArray} {at_ n f c : Int} (h : getF s at_ 2 = (n, f, c)) (hc : c ≠ 0) : getD s at_ = (⟨#[]⟩, 0, c) := by unfold getD; rw [h]; simp [hc]
theorem getD_none {s : ByteArray} {at_ n f : Int} (h : getF s at_ 2 = (n, f, 0)) (hn : (s.size : Int) - f < n) : getD s at_ = (⟨#[]⟩, 0, 242) := by unfold getD; rw [h]; simp [hn]
theorem getD_ok {s : ByteArray} {at_ : Int} {m f : Nat} (h : getF s at_ 2 = ((m : Int), (f : Int), 0)) (hn : f + m ≤ s.size) : getD s at_ = (s.extract f (f + m), (f : Int) + m, 0) := by
  unfold getD
  rw [h]
  have : ¬ ((s.size : Int) - f < m) := by omega
  simp only [ne_eq, not_true_eq_false, if_false, this]
  congr 2
theorem getD_codes (s : ByteArray) (at_ : Int) : 0 ≤ (getD s at_).2.2 ∧ (getD s at_).2.2 ≤ 242 := by
  have h := getF_code s at_ 2
  unfold getD
  repeat' split
  all_goals first | exact h | exact ⟨by simp, by simp⟩
end Go.Proofs.YtedapgeabpadaaaDoor.Pl

/- The walks of both Data and both GetData functions. -/
namespace Go.Proofs.YtedapgeabpadaaaDoor
open Go.RowKit Pl
open Go.PlainAid (bt bt_nonneg bt_le get_bt bt_end)

theorem ret_data {k : IntKind} {s : ByteArray} {c : Int} {x : ByteArray} (h : dataC s = c ∧ dataS s = x) :
    Ending.returned (.tuple #[.string x, .int k c]) = .returned (.tuple #[.string (dataS s), .int k (dataC s)]) := by rw [h.1, h.2]
theorem ret_getd {k : IntKind} {p : ByteArray × Int × Int} {x : ByteArray} {y z : Int} (h : p = (x, y, z)) :
    Ending.returned (.tuple #[.string x, .int .i64 y, .int k z]) = .returned (.tuple #[.string p.1, .int .i64 p.2.1, .int k p.2.2]) := by rw [h]

set_option maxRecDepth 100000 in
theorem data_all (s : ByteArray) (w : World) (_hs : s.size ≤ 140737488351232) :
    Calls Tryd.prog 91 #[.string s] w fun e w' => e = .returned (.tuple #[.string (dataS s), .int .u8 (dataC s)]) ∧ Below w.heap.size w w' := by
  by_cases hb : 65535 < s.size
  · have hd := Lib.hid (data_big hb)
    go_enter Tryd.func91, Tryd.ntmps91
    go_wp2
    go_ret2
    exact ⟨ret_data hd.out, Below.refl _ _⟩
  · have hd := Lib.hid (data_ok hb)
    have hl := fixS_len 2 s.size
    go_enter Tryd.func91, Tryd.ntmps91
    go_wp2_with fail
    refine (fixed_all 2 s.size _).mono ?_
    rintro e w1 ⟨rfl, b1⟩
    go_wp2
    go_ret2
    exact ⟨ret_data hd.out, b1⟩

set_option maxRecDepth 100000 in
theorem getdata_all (s : ByteArray) (at_ : Int) (w : World) (hs : s.size ≤ 140737488351232) (h0 : -9223372036854775808 ≤ at_) (h1 : at_ ≤ 9223372036854775807) :
    Calls Tryd.prog 98 #[.string s, .int .i64 at_] w fun e w' => e = .returned (.tuple #[.string (getD s at_).1, .int .i64 (getD s at_).2.1, .int .u8 (getD s at_).2.2]) ∧ w = w' := by
  rcases getF_two s at_ with hg | hg | ⟨a, m, rfl, hg, hm, ha⟩
  · have hd := Lib.hid (getD_code hg (by decide))
    go_enter Tryd.func98, Tryd.ntmps98
    go_wp2_with fail
    refine (getfixed_all s at_ 2 _ hs h0 h1).mono ?_
    rintro e w1 ⟨rfl, rfl⟩
    rw [hg]
    clear hg
    go_wp2
    go_ret3
    exact ⟨ret_getd hd.out, rfl⟩
  · have hd := Lib.hid (getD_code hg (by decide))
    go_enter Tryd.func98, Tryd.ntmps98
    go_wp2_with fail
    refine (getfixed_all s at_ 2 _ hs h0 h1).mono ?_
    rintro e w1 ⟨rfl, rfl⟩
    rw [hg]
    clear hg
    go_wp2
    go_ret3
    exact ⟨ret_getd hd.out, rfl⟩
  · by_cases hn : a + 2 + m ≤ s.size
    · have hd := Lib.hid (getD_ok hg hn)
      have hg' := Lib.hid hg
      clear hg
      go_enter Tryd.func98, Tryd.ntmps98
      go_wp2_with fail
      refine (getfixed_all s a 2 _ hs h0 h1).mono ?_
      rintro e w1 ⟨rfl, rfl⟩
      rw [hg'.out]
      go_wp2
      go_ret3
      exact ⟨ret_getd hd.out, rfl⟩
    · have hd := Lib.hid (getD_none hg (by omega))
      have hg' := Lib.hid hg
      clear hg
      go_enter Tryd.func98, Tryd.ntmps98
      go_wp2_with fail
      refine (getfixed_all s a 2 _ hs h0 h1).mono ?_
      rintro e w1 ⟨rfl, rfl⟩
      rw [hg'.out]
      go_wp2
      go_ret3
      exact ⟨ret_getd hd.out, rfl⟩

set_option maxRecDepth 100000 in
theorem refgetdata_all (s : ByteArray) (at_ : Int) (w : World) (hs : s.size ≤ 140737488351232) (h0 : -9223372036854775808 ≤ at_) (h1 : at_ ≤ 9223372036854775807) :
    Calls Tryd.prog 102 #[.string s, .int .i64 at_] w fun e w' => e = .returned (.tuple #[.string (getD s at_).1, .int .i64 (getD s at_).2.1, .int .i64 (getD s at_).2.2]) ∧ w = w' := by
  rcases getF_two s at_ with hg | hg | ⟨a, m, rfl, hg, hm, ha⟩
  · have hd := Lib.hid (getD_code hg (by decide))
    go_enter Tryd.func102, Tryd.ntmps102
    go_wp2_with fail
    refine (refgetfixed_all s at_ 2 _ hs h0 h1).mono ?_
    rintro e w1 ⟨rfl, rfl⟩
    rw [hg]
    clear hg
    go_wp2
    go_ret3
    exact ⟨ret_getd hd.out, rfl⟩
  · have hd := Lib.hid (getD_code hg (by decide))
    go_enter Tryd.func102, Tryd.ntmps102
    go_wp2_with fail
    refine (refgetfixed_all s at_ 2 _ hs h0 h1).mono ?_
    rintro e w1 ⟨rfl, rfl⟩
    rw [hg]
    clear hg
    go_wp2
    go_ret3
    exact ⟨ret_getd hd.out, rfl⟩
  · by_cases hn : a + 2 + m ≤ s.size
    · have hd := Lib.hid (getD_ok hg hn)
      have hg' := Lib.hid hg
      clear hg
      go_enter Tryd.func102, Tryd.ntmps102
      go_wp2_with fail
      refine (refgetfixed_all s a 2 _ hs h0 h1).mono ?_
      rintro e w1 ⟨rfl, rfl⟩
      rw [hg'.out]
      go_wp2
      go_ret3
      exact ⟨ret_getd hd.out, rfl⟩
    · have hd := Lib.hid (getD_none hg (by omega))
      have hg' := Lib.hid hg
      clear hg
      go_enter Tryd.func102, Tryd.ntmps102
      go_wp2_with fail
      refine (refgetfixed_all s a 2 _ hs h0 h1).mono ?_
      rintro e w1 ⟨rfl, rfl⟩
      rw [hg'.out]
      go_wp2
      go_ret3
      exact ⟨ret_getd hd.out, rfl⟩
end Go.Proofs.YtedapgeabpadaaaDoor

/- The walks of both Put and both Get functions of package text. -/
namespace Go.Proofs.YtedapgeabpadaaaDoor
open Go.RowKit Pl Go.Shelf

/-- A text's code, and its bytes. -/
def tputC (s : ByteArray) : Int := if (flt s s.size 0).2 = true then 129 else dataC s
def tputS (s : ByteArray) : ByteArray := if (flt s s.size 0).2 = true then ⟨#[]⟩ else dataS s
theorem tput_bad {s : ByteArray} (h : (flt s s.size 0).2 = true) : tputC s = 129 ∧ tputS s = ⟨#[]⟩ := by unfold tputC tputS; rw [if_pos h, if_pos h]; exact ⟨rfl, rfl⟩
theorem tput_ok {s : ByteArray} (h : (flt s s.size 0).2 = false) : tputC s = dataC s ∧ tputS s = dataS s := by unfold tputC tputS; rw [if_neg (by rw [h]; simp), if_neg (by rw [h]; simp)]; exact ⟨rfl, rfl⟩
theorem tputC_bd (s : ByteArray) : 0 ≤ tputC s ∧ tputC s ≤ 149 := by
  have := dataC_bd s
  unfold tputC
  split
  all_goals omega
theorem ret_tput {k : IntKind} {s : ByteArray} {c : Int} {x : ByteArray} (h : tputC s = c ∧ tputS s = x) :
    Ending.returned (.tuple #[.string x, .int k c]) = .returned (.tuple #[.string (tputS s), .int k (tputC s)]) := by rw [h.1, h.2]
/-- The text at a place: the text, the place behind it, the code. -/
def tget (s : ByteArray) (at_ : Int) : ByteArray × Int × Int :=
  if (getD s at_).2.2 ≠ 0 then (⟨#[]⟩, 0, (getD s at_).2.2) else if (flt (getD s at_).1 (getD s at_).1.size 0).2 = true then (⟨#[]⟩, 0, 129) else getD s at_
theorem tget_code {s : ByteArray} {at_ : Int} {t : ByteArray} {f c : Int} (h : getD s at_ = (t, f, c)) (hc : c ≠ 0) : tget s at_ = (⟨#[]⟩, 0, c) := by unfold tget; rw [h]; simp [hc]
theorem tget_bad {s : ByteArray} {at_ : Int} {t : ByteArray} {f : Int} (h : getD s at_ = (t, f, 0)) (hb : (flt t t.size 0).2 = true) : tget s at_ = (⟨#[]⟩, 0, 129) := by unfold tget; rw [h]; simp [hb]
theorem tget_ok {s : ByteArray} {at_ : Int} {t : ByteArray} {f : Int} (h : getD s at_ = (t, f, 0)) (hb : (flt t t.size 0).2 = false) : tget s at_ = (t, f, 0) := by unfold tget; rw [h]; simp [hb]
theorem tget_codes (s : ByteArray) (at_ : Int) : 0 ≤ (tget s at_).2.2 ∧ (tget s at_).2.2 ≤ 242 := by
  have h := getD_codes s at_
  unfold tget
  repeat' split
  all_goals first | exact h | exact ⟨by simp, by simp⟩
/-- What is read is no longer than what it is read from. -/
theorem getD_size (s : ByteArray) (at_ : Int) : (getD s at_).1.size ≤ s.size := by
  unfold getD
  split
  · exact Nat.zero_le _
  · split
    · exact Nat.zero_le _
    · simp only [ByteArray.size_extract]
      omega

set_option maxRecDepth 100000 in
theorem tput_any (s : ByteArray) (w : World) (hs : s.size ≤ 140737488351232) (hT : Tabs w) :
    Calls Tryd.prog 90 #[.string s] w fun e w' => e = .returned (.tuple #[.string (tputS s), .int .u8 (tputC s)]) ∧ Below w.heap.size w w' := by
  obtain ⟨p, b, hf⟩ : ∃ p b, flt s s.size 0 = (p, b) := ⟨_, _, rfl⟩
  have Hf := Lib.hid hf
  clear hf
  cases b
  · have hr := Lib.hid (tput_ok (s := s) (by rw [Hf.out]))
    go_enter Tryd.func90, Tryd.ntmps90
    go_wp2_with fail
    refine (fault_any s _ (by omega) hT).mono ?_
    rintro e w1 ⟨rfl, b1⟩
    rw [Hf.out]
    go_wp2_with fail
    refine (data_all s _ hs).mono ?_
    rintro e w2 ⟨rfl, b2⟩
    go_wp2
    go_ret2
    exact ⟨ret_tput hr.out, b1.trans (b2.mono b1.size)⟩
  · have hr := Lib.hid (tput_bad (s := s) (by rw [Hf.out]))
    go_enter Tryd.func90, Tryd.ntmps90
    go_wp2_with fail
    refine (fault_any s _ (by omega) hT).mono ?_
    rintro e w1 ⟨rfl, b1⟩
    rw [Hf.out]
    go_wp2
    go_ret2
    exact ⟨ret_tput hr.out, b1⟩

set_option maxRecDepth 100000 in
theorem tget_any (s : ByteArray) (at_ : Int) (w : World) (hs : s.size ≤ 140737488351232) (h0 : -9223372036854775808 ≤ at_) (h1 : at_ ≤ 9223372036854775807) (hT : Tabs w) :
    Calls Tryd.prog 82 #[.string s, .int .i64 at_] w fun e w' => e = .returned (.tuple #[.string (tget s at_).1, .int .i64 (tget s at_).2.1, .int .u8 (tget s at_).2.2]) ∧ Below w.heap.size w w' := by
  obtain ⟨t, p, c, hg⟩ : ∃ t p c, getD s at_ = (t, p, c) := ⟨_, _, _, rfl⟩
  have Hg := Lib.hid hg
  have ht : t.size ≤ 140737488351232 := by have := getD_size s at_; rw [hg] at this; simp at this; omega
  clear hg
  by_cases hc : c = 0
  · subst hc
    obtain ⟨q, b, hf⟩ : ∃ p b, flt t t.size 0 = (p, b) := ⟨_, _, rfl⟩
    have Hf := Lib.hid hf
    clear hf
    cases b
    · have hr := Lib.hid (tget_ok Hg.out (by rw [Hf.out]))
      go_enter Tryd.func82, Tryd.ntmps82
      go_wp2_with fail
      refine (getdata_all s at_ _ hs h0 h1).mono ?_
      rintro e w1 ⟨rfl, rfl⟩
      rw [Hg.out]
      go_wp2_with fail
      refine (fault_any t _ (by omega) hT).mono ?_
      rintro e w2 ⟨rfl, b2⟩
      rw [Hf.out]
      go_wp2
      go_ret3
      exact ⟨ret_getd hr.out, b2⟩
    · have hr := Lib.hid (tget_bad Hg.out (by rw [Hf.out]))
      go_enter Tryd.func82, Tryd.ntmps82
      go_wp2_with fail
      refine (getdata_all s at_ _ hs h0 h1).mono ?_
      rintro e w1 ⟨rfl, rfl⟩
      rw [Hg.out]
      go_wp2_with fail
      refine (fault_any t _ (by omega) hT).mono ?_
      rintro e w2 ⟨rfl, b2⟩
      rw [Hf.out]
      go_wp2
      go_ret3
      exact ⟨ret_getd hr.out, b2⟩
  · have hr := Lib.hid (tget_code Hg.out hc)
    have hcn : (c != 0) = true := by simpa using hc
    clear hc
    go_enter Tryd.func82, Tryd.ntmps82
    go_wp2_with fail
    refine (getdata_all s at_ _ hs h0 h1).mono ?_
    rintro e w1 ⟨rfl, rfl⟩
    rw [Hg.out]
    go_wp2
    go_ret3
    exact ⟨ret_getd hr.out, Below.refl _ _⟩

set_option maxRecDepth 100000 in
theorem reftget_any (s : ByteArray) (at_ : Int) (w : World) (hs : s.size ≤ 140737488351232) (h0 : -9223372036854775808 ≤ at_) (h1 : at_ ≤ 9223372036854775807) :
    Calls Tryd.prog 88 #[.string s, .int .i64 at_] w fun e w' => e = .returned (.tuple #[.string (tget s at_).1, .int .i64 (tget s at_).2.1, .int .i64 (tget s at_).2.2]) ∧ w = w' := by
  obtain ⟨t, p, c, hg⟩ : ∃ t p c, getD s at_ = (t, p, c) := ⟨_, _, _, rfl⟩
  have Hg := Lib.hid hg
  have ht : t.size ≤ 140737488351232 := by have := getD_size s at_; rw [hg] at this; simp at this; omega
  clear hg
  by_cases hc : c = 0
  · subst hc
    obtain ⟨q, b, hf⟩ : ∃ p b, flt t t.size 0 = (p, b) := ⟨_, _, rfl⟩
    have Hf := Lib.hid hf
    clear hf
    cases b
    · have hr := Lib.hid (tget_ok Hg.out (by rw [Hf.out]))
      go_enter Tryd.func88, Tryd.ntmps88
      go_wp2_with fail
      refine (refgetdata_all s at_ _ hs h0 h1).mono ?_
      rintro e w1 ⟨rfl, rfl⟩
      rw [Hg.out]
      go_wp2_with fail
      refine (reffault_any t _ (by omega)).mono ?_
      rintro e w2 ⟨rfl, rfl⟩
      rw [Hf.out]
      go_wp2
      go_ret3
      exact ⟨ret_getd hr.out, rfl⟩
    · have hr := Lib.hid (tget_bad Hg.out (by rw [Hf.out]))
      go_enter Tryd.func88, Tryd.ntmps88
      go_wp2_with fail
      refine (refgetdata_all s at_ _ hs h0 h1).mono ?_
      rintro e w1 ⟨rfl, rfl⟩
      rw [Hg.out]
      go_wp2_with fail
      refine (reffault_any t _ (by omega)).mono ?_
      rintro e w2 ⟨rfl, rfl⟩
      rw [Hf.out]
      go_wp2
      go_ret3
      exact ⟨ret_getd hr.out, rfl⟩
  · have hr := Lib.hid (tget_code Hg.out hc)
    have hcn : (c != 0) = true := by simpa using hc
    clear hc
    go_enter Tryd.func88, Tryd.ntmps88
    go_wp2_with fail
    refine (refgetdata_all s at_ _ hs h0 h1).mono ?_
    rintro e w1 ⟨rfl, rfl⟩
    rw [Hg.out]
    go_wp2
    go_ret3
    exact ⟨ret_getd hr.out, rfl⟩
end Go.Proofs.YtedapgeabpadaaaDoor

/- Plain facts about variable byte integers: sizes, bytes, reading; no program in sight. -/
namespace Go.Proofs.YtedapgeabpadaaaDoor.Pl

/-- How many bytes a number takes; 0: none. -/
def sz (n : Int) : Int := if n < 0 ∨ 268435455 < n then 0 else if n < 128 then 1 else if n < 16384 then 2 else if n < 2097152 then 3 else 4

theorem sz_bad {n : Int} (h : n < 0 ∨ 268435455 < n) : sz n = 0 := by unfold sz; rw [if_pos h]
theorem sz_1 {n : Int} (h0 : 0 ≤ n) (h : n < 128) : sz n = 1 := by unfold sz; rw [if_neg (by omega), if_pos h]
theorem sz_2 {n : Int} (h0 : 128 ≤ n) (h : n < 16384) : sz n = 2 := by unfold sz; rw [if_neg (by omega), if_neg (by omega), if_pos h]
theorem sz_3 {n : Int} (h0 : 16384 ≤ n) (h : n < 2097152) : sz n = 3 := by unfold sz; rw [if_neg (by omega), if_neg (by omega), if_neg (by omega), if_pos h]
theorem sz_4 {n : Int} (h0 : 2097152 ≤ n) (h : n ≤ 268435455) : sz n = 4 := by unfold sz; rw [if_neg (by omega), if_neg (by omega), if_neg (by omega), if_neg (by omega)]
theorem sz_div {n : Int} (h0 : 128 ≤ n) (h : n ≤ 268435455) : sz n = sz (n / 128) + 1 := by
  by_cases h1 : n < 16384
  · rw [sz_2 h0 h1, sz_1 (by omega) (by omega)]; rfl
  · by_cases h2 : n < 2097152
    · rw [sz_3 (by omega) h2, sz_2 (by omega) (by omega)]; rfl
    · rw [sz_4 (by omega) h, sz_3 (by omega) (by omega)]; rfl
theorem sz_pos {n : Int} (h0 : 0 ≤ n) (h : n ≤ 268435455) : 1 ≤ sz n ∧ sz n ≤ 4 := by
  unfold sz
  rw [if_neg (by omega)]
  repeat' split
  all_goals omega
theorem sz_room {n m k : Int} (h : sz n = sz m + k - 1) (hd : sz m = sz (m / 128) + 1) (h0 : 0 ≤ n) (h1 : n ≤ 268435455) (m0 : 0 ≤ m / 128) (m1 : m / 128 ≤ 268435455) : k ≤ 3 := by
  have a := sz_pos h0 h1
  have b := sz_pos m0 m1
  omega

/-- r bytes of a number, the lowest seven bits first. -/
def vb : Int → Nat → List UInt8
  | _, 0 => []
  | n, 1 => [by8 (n % 128)]
  | n, r + 2 => by8 (n % 128 + 128) :: vb (n / 128) (r + 1)
/-- A number's bytes. -/
def enc (n : Int) : List UInt8 := vb n (sz n).toNat
theorem vb_length (r : Nat) : ∀ n, (vb n r).length = r := by
  induction r with
  | zero => intro n; rfl
  | succ r ih =>
    intro n
    cases r with
    | zero => rfl
    | succ r => simp [vb, ih]
theorem enc_length (n : Int) : (enc n).length = (sz n).toNat := vb_length _ _
theorem vb_last (n : Int) : vb n 1 = [by8 (n % 128)] := rfl
theorem vb_more (n : Int) (r : Nat) (h : 2 ≤ r) : vb n r = by8 (n % 128 + 128) :: vb (n / 128) (r - 1) := by
  obtain ⟨q, rfl⟩ : ∃ q, r = q + 2 := ⟨r - 2, by omega⟩
  rfl
theorem vb_step {n z x : Int} {l e : List UInt8} {k : Nat} (hv : l ++ vb (n / 128 ^ k) (z.toNat - k) = e) (hx : x = n / 128 ^ k % 128) (hz : (k : Int) + 1 < z) :
    (l ++ [by8 (x + 128)]) ++ vb (n / 128 ^ (k + 1)) (z.toNat - (k + 1)) = e := by
  rw [← hv, vb_more (n / 128 ^ k) (z.toNat - k) (by omega), hx, Int.pow_succ, ← Int.ediv_ediv_of_nonneg (Int.pow_nonneg (by decide)), Nat.sub_add_eq]
  simp
theorem vb_stop {n z x : Int} {l e : List UInt8} {k : Nat} (hv : l ++ vb (n / 128 ^ k) (z.toNat - k) = e) (hx : x = n / 128 ^ k % 128) (hz : (k : Int) + 1 = z) :
    (l ++ [by8 x]) ++ vb (n / 128 ^ (k + 1)) (z.toNat - (k + 1)) = e := by
  rw [← hv, show z.toNat - k = 1 from by omega, show z.toNat - (k + 1) = 0 from by omega, vb_last, hx]
  simp [vb]
theorem vm_step {m z : Int} {l e : List UInt8} {k : Nat} (hv : l ++ vb m (z.toNat - k) = e) (hz : (k : Int) + 1 < z) : (l ++ [by8 (m % 128 + 128)]) ++ vb (m / 128) (z.toNat - (k + 1)) = e := by
  rw [← hv, vb_more m (z.toNat - k) (by omega), Nat.sub_add_eq]
  simp
theorem vm_stop {m z : Int} {l e : List UInt8} {k : Nat} (hv : l ++ vb m (z.toNat - k) = e) (hz : (k : Int) + 1 = z) : (l ++ [by8 (m % 128)]) ++ vb (m / 128) (z.toNat - (k + 1)) = e := by
  rw [← hv, show z.toNat - k = 1 from by omega, show z.toNat - (k + 1) = 0 from by omega, vb_last]
  simp [vb]

/-! Reading: at round k the number n has been gathered; the byte at a stands next. -/
open Go.PlainAid (bt bt_nonneg bt_le get_bt bt_end)
def gi (s : ByteArray) : Nat → Nat → Int → Nat → Int × Int × Int
  | 0, _, _, _ => (0, 0, 129)
  | f + 1, k, n, a =>
    if s.size ≤ a then (0, 0, 242) else if bt s a < 128 then (if 0 < k ∧ bt s a = 0 then (0, 0, 129) else (n + bt s a * 128 ^ k, (a : Int) + 1, 0))
    else gi s f (k + 1) (n + bt s a % 128 * 128 ^ k) (a + 1)
/-- The number at a place: the number, the place behind it, the code. -/
def getV (s : ByteArray) (at_ : Int) : Int × Int × Int := if at_ < 0 ∨ (s.size : Int) < at_ then (0, 0, 128) else gi s 4 0 0 at_.toNat
theorem getV_bad {s : ByteArray} {at_ : Int} (h : at_ < 0 ∨ (s.size : Int) < at_) : getV s at_ = (0, 0, 128) := by unfold getV; rw [if_pos h]
theorem getV_ok {s : ByteArray} {a : Nat} (h : a ≤ s.size) : getV s a = gi s 4 0 0 a := by unfold getV; rw [if_neg (by omega)]; rfl
theorem gi_end {s : ByteArray} {f k a : Nat} {n : Int} (h : s.size ≤ a) : gi s (f + 1) k n a = (0, 0, 242) := by unfold gi; rw [if_pos h]
theorem gi_last {s : ByteArray} {f k a : Nat} {n : Int} (h : ¬ s.size ≤ a) (hb : bt s a < 128) (hk : ¬ (0 < k ∧ bt s a = 0)) : gi s (f + 1) k n a = (n + bt s a * 128 ^ k, (a : Int) + 1, 0) := by
  unfold gi; rw [if_neg h, if_pos hb, if_neg hk]
theorem gi_long {s : ByteArray} {f k a : Nat} {n : Int} (h : ¬ s.size ≤ a) (hb : bt s a < 128) (hk : 0 < k ∧ bt s a = 0) : gi s (f + 1) k n a = (0, 0, 129) := by
  unfold gi; rw [if_neg h, if_pos hb, if_pos hk]
theorem gi_more {s : ByteArray} {f k a : Nat} {n : Int} (h : ¬ s.size ≤ a) (hb : 128 ≤ bt s a) : gi s (f + 1) k n a = gi s f (k + 1) (n + bt s a % 128 * 128 ^ k) (a + 1) := by
  conv => lhs; unfold gi
  rw [if_neg h, if_neg (by omega)]
theorem gi_zero {s : ByteArray} {k a : Nat} {n : Int} : gi s 0 k n a = (0, 0, 129) := rfl
theorem sz_small {n : Int} {k : Nat} (h0 : 0 ≤ n) (h1 : n < 128 ^ k) (hk : 1 ≤ k ∧ k ≤ 3) : sz n ≤ k := by
  obtain rfl | rfl | rfl : k = 1 ∨ k = 2 ∨ k = 3 := by omega
  all_goals (simp at h1; unfold sz; rw [if_neg (by omega)]; repeat' split) <;> omega
theorem sz_exact {n : Int} {k : Nat} (h0 : 0 ≤ n) (h1 : n < 128 ^ (k + 1)) (h2 : k = 0 ∨ 128 ^ k ≤ n) (hk : k ≤ 3) : sz n = k + 1 := by
  obtain rfl | rfl | rfl | rfl : k = 0 ∨ k = 1 ∨ k = 2 ∨ k = 3 := by omega
  all_goals (simp at h1 h2; unfold sz; rw [if_neg (by omega)]; repeat' split) <;> omega
theorem gi_code (s : ByteArray) : ∀ (f k : Nat) (n : Int) (a : Nat), 0 ≤ (gi s f k n a).2.2 ∧ (gi s f k n a).2.2 ≤ 242 := by
  intro f
  induction f with
  | zero => intro k n a; rw [gi_zero]; exact ⟨by decide, by decide⟩
  | succ f ih =>
    intro k n a
    unfold gi
    repeat' split
    all_goals first | exact ih _ _ _ | exact ⟨by simp, by simp⟩
theorem getV_code (s : ByteArray) (at_ : Int) : 0 ≤ (getV s at_).2.2 ∧ (getV s at_).2.2 ≤ 242 := by
  unfold getV
  split
  · exact ⟨by decide, by decide⟩
  · exact gi_code _ _ _ _ _
end Go.Proofs.YtedapgeabpadaaaDoor.Pl

/- The walks of both Size functions: they give sz. -/
namespace Go.Proofs.YtedapgeabpadaaaDoor
open Go.RowKit Pl

theorem size_any (n : Int) (w : World) : Calls Tryd.prog 48 #[.int .i64 n] w fun e w' => e = .returned (.int .i64 (sz n)) ∧ w = w' := by
  go_enter Tryd.func48, Tryd.ntmps48
  go_wp2
  all_goals go_ret
  all_goals exact ⟨ret_int (by first | rw [sz_bad (by omega)] | rw [sz_1 (by omega) (by omega)] | rw [sz_2 (by omega) (by omega)] | rw [sz_3 (by omega) (by omega)] | rw [sz_4 (by omega) (by omega)]), rfl⟩

theorem refsize_any (n : Int) (w : World) : Calls Tryd.prog 58 #[.int .i64 n] w fun e w' => e = .returned (.int .i64 (sz n)) ∧ w = w' := by
  by_cases hb : n < 0 ∨ 268435455 < n
  · have hs : Hid (sz n = 0) := Lib.hid (sz_bad hb)
    go_enter Tryd.func58, Tryd.ntmps58
    go_wp2
    all_goals go_ret
    all_goals exact ⟨ret_int hs.out.symm, rfl⟩
  · have h0 : 0 ≤ n := by omega
    have h1 : n ≤ 268435455 := by omega
    clear hb
    go_enter Tryd.func58, Tryd.ntmps58
    go_wp2
    go_loop [0, 3] (fun v0 v3 => ∃ m k : Int, v0 = .int .i64 m ∧ v3 = .int .i64 k ∧ 0 ≤ m ∧ m ≤ 268435455 ∧ 1 ≤ k ∧ k ≤ 4 ∧ sz n = sz m + k - 1) (fun v0 _ => (intOf v0).toNat)
    case atStart => exact ⟨n, 1, rfl, rfl, h0, h1, by omega, by omega, by omega⟩
    case round =>
      obtain ⟨m, k, rfl, rfl, hm0, hm1, hk1, hk4, hs'⟩ := hrel
      have hs := Lib.hid hs'
      clear hs'
      by_cases hm : 127 < m
      · have hd := Lib.hid (sz_div (n := m) (by omega) hm1)
        have hk3 : k ≤ 3 := sz_room hs.out hd.out h0 h1 (by omega) (by omega)
        go_wp2
        go_round
        case rel => exact ⟨m / 128, k + 1, rfl, rfl, by omega, by omega, by omega, by omega, by rw [hs.out, hd.out]; omega⟩
        case measure => simp [intOf]; omega
      · have hd := Lib.hid (sz_1 (n := m) (by omega) (by omega))
        go_wp2
        go_ret
        exact ⟨ret_int (by rw [hs.out, hd.out]; omega), rfl⟩
end Go.Proofs.YtedapgeabpadaaaDoor

/- The walks of both Put functions. -/
namespace Go.Proofs.YtedapgeabpadaaaDoor
open Go.RowKit Pl
theorem u8_info : (Tryd.prog.info? 5).map (fun i => (i.zero, i.size, i.bytes)) = some (some (.int .u8 0), 1, 1) := by kernel_rfl

set_option maxRecDepth 100000 in
theorem put_any (n : Int) (w : World) (h0 : 0 ≤ n) (h1 : n ≤ 268435455) :
    Calls Tryd.prog 29 #[.int .i64 n] w fun e w' => e = .returned (.tuple #[.string ⟨(enc n).toArray⟩, .int .u8 0]) ∧ Below w.heap.size w w' := by
  obtain ⟨i0, hi, hz0, hz1, hz2⟩ := info_parts u8_info
  have hsz := sz_pos h0 h1
  obtain ⟨z, hz⟩ : ∃ z, z = sz n := ⟨_, rfl⟩
  have he : Hid (enc n = vb n z.toNat) := by unfold enc; rw [hz]; exact Lib.hid rfl
  rw [← hz] at hsz
  go_enter Tryd.func29, Tryd.ntmps29
  go_wp2_with fail
  refine (size_any n _).mono ?_
  rintro e w' ⟨rfl, rfl⟩
  rw [← hz]
  have hz' := Lib.hid hz
  clear hz
  have hne : (z == 0) = false := by rw [beq_eq_false_iff_ne]; omega
  go_wp2
  go_loopw [13, 5] (fun i b wr => ∃ (k : Nat) (l : List UInt8), i = .int .i64 k ∧ (k : Int) ≤ z ∧ wr.ownsRow w.heap.size 5 1 b k (cells8 l) ∧ l ++ vb (n / 128 ^ k) (z.toNat - k) = enc n ∧ Below w.heap.size w wr)
    (fun i _ _ => (z - intOf i).toNat)
  case atStart => exact ⟨0, [], rfl, by omega, World.ownsRow_nil _ _ _ _, by simpa using he.out.symm, Below.refl _ _⟩
  case round =>
    obtain ⟨k, l, rfl, hk, hown, hv', hbel⟩ := hrel
    have hv := Lib.hid hv'
    clear hv'
    by_cases hkz : (k : Int) < z
    · obtain rfl | rfl | rfl | rfl : k = 0 ∨ k = 1 ∨ k = 2 ∨ k = 3 := by omega
      · obtain ⟨x, hx⟩ : ∃ x, x = (n) % 128 := ⟨_, rfl⟩
        have hx0 : 0 ≤ x := by omega
        have hx1 : x < 128 := by omega
        have ha : bits .and .i64 (n) 127 = x := by rw [and_127 (by omega) (by omega)]; exact hx.symm
        have ho : bits .or .u8 x 128 = x + 128 := or_128 hx0 hx1
        have Hx := Lib.hid hx
        clear hx
        by_cases hm : (0 : Int) + 1 < z
        · go_wp2_with (at_builtin; refine wpList_push (.tmp 28) (.tmp 30) 59 5 i0 (.int .u8 0) 1 rfl rfl Tryd.underlying59 hi hz0 hz1 hz2 rfl w.heap.size _ 0 (cells8 l) (.int .u8 (x + 128)) rfl rfl hown hbel hbel.size rfl (by simp [maxLen]) (by omega) ?_; intro v' w1 hown1 hbel1 hs1 hn1)
          go_wp2
          go_roundw
          case rel => exact ⟨0 + 1, l ++ [by8 (x + 128)], by go_num, by omega, by rw [← cells8_snoc l (x + 128) (x + 128) (by omega)]; exact hown1, vb_step hv.out (by rw [Hx.out]; simp) hm, hbel1⟩
          case measure => simp [intOf]; omega
        · go_wp2_with (at_builtin; refine wpList_push (.tmp 28) (.tmp 30) 59 5 i0 (.int .u8 0) 1 rfl rfl Tryd.underlying59 hi hz0 hz1 hz2 rfl w.heap.size _ 0 (cells8 l) (.int .u8 x) rfl rfl hown hbel hbel.size rfl (by simp [maxLen]) (by omega) ?_; intro v' w1 hown1 hbel1 hs1 hn1)
          go_wp2
          go_roundw
          case rel => exact ⟨0 + 1, l ++ [by8 x], by go_num, by omega, by rw [← cells8_snoc l x x (by omega)]; exact hown1, vb_stop hv.out (by rw [Hx.out]; simp) (by omega), hbel1⟩
          case measure => simp [intOf]; omega
      · obtain ⟨x, hx⟩ : ∃ x, x = (n / 128) % 128 := ⟨_, rfl⟩
        have hx0 : 0 ≤ x := by omega
        have hx1 : x < 128 := by omega
        have ha : bits .and .i64 (n / 128) 127 = x := by rw [and_127 (by omega) (by omega)]; exact hx.symm
        have ho : bits .or .u8 x 128 = x + 128 := or_128 hx0 hx1
        have Hx := Lib.hid hx
        clear hx
        by_cases hm : (1 : Int) + 1 < z
        · go_wp2_with (at_builtin; refine wpList_push (.tmp 28) (.tmp 30) 59 5 i0 (.int .u8 0) 1 rfl rfl Tryd.underlying59 hi hz0 hz1 hz2 rfl w.heap.size _ 1 (cells8 l) (.int .u8 (x + 128)) rfl rfl hown hbel hbel.size rfl (by simp [maxLen]) (by omega) ?_; intro v' w1 hown1 hbel1 hs1 hn1)
          go_wp2
          go_roundw
          case rel => exact ⟨1 + 1, l ++ [by8 (x + 128)], by go_num, by omega, by rw [← cells8_snoc l (x + 128) (x + 128) (by omega)]; exact hown1, vb_step hv.out (by rw [Hx.out]; simp) hm, hbel1⟩
          case measure => simp [intOf]; omega
        · go_wp2_with (at_builtin; refine wpList_push (.tmp 28) (.tmp 30) 59 5 i0 (.int .u8 0) 1 rfl rfl Tryd.underlying59 hi hz0 hz1 hz2 rfl w.heap.size _ 1 (cells8 l) (.int .u8 x) rfl rfl hown hbel hbel.size rfl (by simp [maxLen]) (by omega) ?_; intro v' w1 hown1 hbel1 hs1 hn1)
          go_wp2
          go_roundw
          case rel => exact ⟨1 + 1, l ++ [by8 x], by go_num, by omega, by rw [← cells8_snoc l x x (by omega)]; exact hown1, vb_stop hv.out (by rw [Hx.out]; simp) (by omega), hbel1⟩
          case measure => simp [intOf]; omega
      · obtain ⟨x, hx⟩ : ∃ x, x = (n / 16384) % 128 := ⟨_, rfl⟩
        have hx0 : 0 ≤ x := by omega
        have hx1 : x < 128 := by omega
        have ha : bits .and .i64 (n / 16384) 127 = x := by rw [and_127 (by omega) (by omega)]; exact hx.symm
        have ho : bits .or .u8 x 128 = x + 128 := or_128 hx0 hx1
        have Hx := Lib.hid hx
        clear hx
        by_cases hm : (2 : Int) + 1 < z
        · go_wp2_with (at_builtin; refine wpList_push (.tmp 28) (.tmp 30) 59 5 i0 (.int .u8 0) 1 rfl rfl Tryd.underlying59 hi hz0 hz1 hz2 rfl w.heap.size _ 2 (cells8 l) (.int .u8 (x + 128)) rfl rfl hown hbel hbel.size rfl (by simp [maxLen]) (by omega) ?_; intro v' w1 hown1 hbel1 hs1 hn1)
          go_wp2
          go_roundw
          case rel => exact ⟨2 + 1, l ++ [by8 (x + 128)], by go_num, by omega, by rw [← cells8_snoc l (x + 128) (x + 128) (by omega)]; exact hown1, vb_step hv.out (by rw [Hx.out]; simp) hm, hbel1⟩
          case measure => simp [intOf]; omega
        · go_wp2_with (at_builtin; refine wpList_push (.tmp 28) (.tmp 30) 59 5 i0 (.int .u8 0) 1 rfl rfl Tryd.underlying59 hi hz0 hz1 hz2 rfl w.heap.size _ 2 (cells8 l) (.int .u8 x) rfl rfl hown hbel hbel.size rfl (by simp [maxLen]) (by omega) ?_; intro v' w1 hown1 hbel1 hs1 hn1)
          go_wp2
          go_roundw
          case rel => exact ⟨2 + 1, l ++ [by8 x], by go_num, by omega, by rw [← cells8_snoc l x x (by omega)]; exact hown1, vb_stop hv.out (by rw [Hx.out]; simp) (by omega), hbel1⟩
          case measure => simp [intOf]; omega
      · obtain ⟨x, hx⟩ : ∃ x, x = (n / 2097152) % 128 := ⟨_, rfl⟩
        have hx0 : 0 ≤ x := by omega
        have hx1 : x < 128 := by omega
        have ha : bits .and .i64 (n / 2097152) 127 = x := by rw [and_127 (by omega) (by omega)]; exact hx.symm
        have ho : bits .or .u8 x 128 = x + 128 := or_128 hx0 hx1
        have Hx := Lib.hid hx
        clear hx
        by_cases hm : (3 : Int) + 1 < z
        · exfalso; omega
        · go_wp2_with (at_builtin; refine wpList_push (.tmp 28) (.tmp 30) 59 5 i0 (.int .u8 0) 1 rfl rfl Tryd.underlying59 hi hz0 hz1 hz2 rfl w.heap.size _ 3 (cells8 l) (.int .u8 x) rfl rfl hown hbel hbel.size rfl (by simp [maxLen]) (by omega) ?_; intro v' w1 hown1 hbel1 hs1 hn1)
          go_wp2
          go_roundw
          case rel => exact ⟨3 + 1, l ++ [by8 x], by go_num, by omega, by rw [← cells8_snoc l x x (by omega)]; exact hown1, vb_stop hv.out (by rw [Hx.out]; simp) (by omega), hbel1⟩
          case measure => simp [intOf]; omega
    · obtain rfl : z = k := by omega
      have hc := run_string_own (P := Tryd.prog) 59 9 5 w.heap.size _ k l Tryd.underlying59 Tryd.underlying5 Tryd.underlying9 hown
      have hl := Lib.hid (show l = enc n by have := hv.out; simpa [vb] using this)
      go_wp2
      go_ret2
      exact ⟨ret2 (val_str hl.out) rfl, hbel⟩

/-- The code that comes with a number's bytes. -/
def putC (n : Int) : Int := if n < 0 ∨ 268435455 < n then 129 else 0
theorem enc_bad {n : Int} (h : n < 0 ∨ 268435455 < n) : enc n = [] := by unfold enc; rw [sz_bad h]; rfl

theorem put_all (n : Int) (w : World) :
    Calls Tryd.prog 29 #[.int .i64 n] w fun e w' => e = .returned (.tuple #[.string ⟨(enc n).toArray⟩, .int .u8 (putC n)]) ∧ Below w.heap.size w w' := by
  by_cases hb : n < 0 ∨ 268435455 < n
  · have he := Lib.hid (enc_bad hb)
    have hp : Hid (putC n = 129) := by unfold putC; rw [if_pos hb]; exact Lib.hid rfl
    have hz := sz_bad hb
    go_enter Tryd.func29, Tryd.ntmps29
    go_wp2_with fail
    refine (size_any n _).mono ?_
    rintro e w' ⟨rfl, rfl⟩
    go_wp2
    go_ret2
    exact ⟨ret2 (val_str (l := []) he.out.symm) (val_int hp.out.symm), Below.refl _ _⟩
  · have hp : putC n = 0 := by unfold putC; rw [if_neg hb]
    rw [hp]
    exact put_any n w (by omega) (by omega)

theorem putC_bd (n : Int) : 0 ≤ putC n ∧ putC n ≤ 129 := by unfold putC; split <;> omega
end Go.Proofs.YtedapgeabpadaaaDoor
