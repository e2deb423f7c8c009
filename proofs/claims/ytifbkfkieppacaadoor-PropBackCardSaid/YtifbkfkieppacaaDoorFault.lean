/- The walks of package text's next and Fault. -/
import Derived.Test.YtifbkfkieppacaaDoorTextTabs
import Derived.WalkLawsBesides
import Derived.WalkSpells
import Derived.Handy
namespace Go.Proofs.YtifbkfkieppacaaDoor
open Go.RowKit Pl Go.Shelf
open Go.PlainAid (bt bt_nonneg bt_le get_bt bt_end)

theorem decode_tail (s : ByteArray) (a : Nat) (h : a < s.size) : Lib.decodeGo (s.extract a s.size) = Utf8.decode s a := decodeGo_tail s a h

theorem next_any (s : ByteArray) (a : Nat) (ha : a < s.size) (w : World) (hT : Tabs w) :
    Calls Tryd.prog 58 #[.string (s.extract a s.size)] w fun e w' => e = .returned (.int .i64 (nx s a)) ∧ Below w.heap.size w w' := by
  obtain ⟨r, n, hd⟩ : ∃ r n, Utf8.decode s a = (r, n) := ⟨_, _, rfl⟩
  have hn := nx_decode s a
  rw [hd] at hn
  have Hn := Lib.hid hn
  have Hd := Lib.hid ((decode_tail s a ha).trans hd)
  clear hn hd
  by_cases h0 : r = 0
  · subst h0
    have hv := Lib.hid (Hn.out.trans (if_pos (.inl rfl)))
    go_enter Tryd.func58, Tryd.ntmps58
    go_wp2_with fail
    refine (Tryd.utf8_DecodeRuneInString _ _ hT).mono ?_
    rintro e w1 ⟨rfl, b1⟩
    rw [Hd.out]
    go_wp2
    go_ret
    exact ⟨ret_int (by rw [hv.out]; rfl), b1⟩
  · have h0' : ((r : Int) == 0) = false := by rw [beq_eq_false_iff_ne]; omega
    by_cases h1 : r = 65533
    · subst h1
      by_cases h2 : n < 2
      · have hv := Lib.hid (Hn.out.trans (if_pos (.inr ⟨rfl, h2⟩)))
        go_enter Tryd.func58, Tryd.ntmps58
        go_wp2_with fail
        refine (Tryd.utf8_DecodeRuneInString _ _ hT).mono ?_
        rintro e w1 ⟨rfl, b1⟩
        rw [Hd.out]
        go_wp2
        go_ret
        exact ⟨ret_int (by rw [hv.out]; rfl), b1⟩
      · have hv := Lib.hid (Hn.out.trans (if_neg (by rintro (h | ⟨_, h⟩); exact h0 h; exact h2 h)))
        go_enter Tryd.func58, Tryd.ntmps58
        go_wp2_with fail
        refine (Tryd.utf8_DecodeRuneInString _ _ hT).mono ?_
        rintro e w1 ⟨rfl, b1⟩
        rw [Hd.out]
        go_wp2
        go_ret
        exact ⟨ret_int (by rw [hv.out]), b1⟩
    · have h1' : ((r : Int) == 65533) = false := by rw [beq_eq_false_iff_ne]; omega
      have hv := Lib.hid (Hn.out.trans (if_neg (by rintro (h | ⟨h, _⟩); exact h0 h; exact h1 h)))
      go_enter Tryd.func58, Tryd.ntmps58
      go_wp2_with fail
      refine (Tryd.utf8_DecodeRuneInString _ _ hT).mono ?_
      rintro e w1 ⟨rfl, b1⟩
      rw [Hd.out]
      go_wp2
      go_ret
      exact ⟨ret_int (by rw [hv.out]), b1⟩

theorem fault_any (s : ByteArray) (w : World) (hs : s.size ≤ 281474976710656) (hT : Tabs w) :
    Calls Tryd.prog 53 #[.string s] w fun e w' => e = .returned (.tuple #[.int .i64 (flt s s.size 0).1, .bool (flt s s.size 0).2]) ∧ Below w.heap.size w w' := by
  have HT := Lib.hid hT
  clear hT
  go_enter Tryd.func53, Tryd.ntmps53
  go_wp2
  go_loopw [4] (fun i wr => ∃ a f : Nat, i = .int .i64 a ∧ a ≤ s.size ∧ s.size ≤ a + f ∧ Hid (flt s s.size 0 = flt s f a) ∧ Below w.heap.size w wr) (fun i _ => s.size - (intOf i).toNat)
  case atStart => exact ⟨0, s.size, rfl, by omega, by omega, rfl, Below.refl _ _⟩
  case round =>
    obtain ⟨a, f, rfl, ha, hf, hv, hbel⟩ := hrel
    have hTr : Hid (Tabs wr) := Lib.hid (HT.out.below hbel)
    by_cases hlt : a < s.size
    · obtain ⟨n, hn⟩ : ∃ n, nx s a = n := ⟨_, rfl⟩
      have Hn := Lib.hid hn
      clear hn
      by_cases h0 : n = 0
      · have hr := Lib.hid (hv.out.trans (flt_bad hlt hf (Hn.out.trans h0)))
        subst h0
        go_wp2_with fail
        refine (next_any s a hlt _ hTr.out).mono ?_
        rintro e w1 ⟨rfl, b1⟩
        rw [Hn.out]
        go_wp2
        go_ret2
        exact ⟨ret2 (val_int (by rw [hr.out])) (val_bool (by rw [hr.out])), hbel.trans (b1.mono hbel.size)⟩
      · have hne : ((n : Int) == 0) = false := by rw [beq_eq_false_iff_ne]; omega
        have hle : a + n ≤ s.size := by have := nx_le s a (by rw [Hn.out]; exact h0); rw [Hn.out] at this; exact this
        have hr := Lib.hid (hv.out.trans (flt_step hlt hf (by rw [Hn.out]; exact h0)))
        go_wp2_with fail
        refine (next_any s a hlt _ hTr.out).mono ?_
        rintro e w1 ⟨rfl, b1⟩
        rw [Hn.out]
        go_wp2
        go_roundw
        case rel => exact ⟨a + n, f - 1, by go_num, hle, by omega, by rw [hr.out, Hn.out]; exact Lib.hid rfl, hbel.trans (b1.mono hbel.size)⟩
        case measure => simp [intOf]; omega
    · have hr := Lib.hid (hv.out.trans (flt_end (by omega)))
      go_wp2
      go_ret2
      exact ⟨ret2 (val_int (by rw [hr.out])) (val_bool (by rw [hr.out])), hbel⟩

end Go.Proofs.YtifbkfkieppacaaDoor
