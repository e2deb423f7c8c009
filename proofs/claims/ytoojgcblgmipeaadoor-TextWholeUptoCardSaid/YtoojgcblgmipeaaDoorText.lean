/- The walks of package text's functions (next, Fault, Runes, Cut) and of the document's (tail, Char, Fault, Runes, Cut). -/
import Derived.Test.YtoojgcblgmipeaaDoorTextTabs
import Derived.WalkLawsBesides
import Derived.WalkSpells
import Derived.Handy
namespace Go.Proofs.YtoojgcblgmipeaaDoor
open Go.RowKit Pl Go.Shelf
open Go.PlainAid (bt bt_nonneg bt_le get_bt bt_end)

theorem decode_tail (s : ByteArray) (a : Nat) (h : a < s.size) : Lib.decodeGo (s.extract a s.size) = Utf8.decode s a := decodeGo_tail s a h

theorem next_any (s : ByteArray) (a : Nat) (ha : a < s.size) (w : World) (hT : Tabs w) :
    Calls Tryd.prog 20 #[.string (s.extract a s.size)] w fun e w' => e = .returned (.int .i64 (nx s a)) ∧ Below w.heap.size w w' := by
  obtain ⟨r, n, hd⟩ : ∃ r n, Utf8.decode s a = (r, n) := ⟨_, _, rfl⟩
  have hn := nx_decode s a
  rw [hd] at hn
  have Hn := Lib.hid hn
  have Hd := Lib.hid ((decode_tail s a ha).trans hd)
  clear hn hd
  by_cases h0 : r = 0
  · subst h0
    have hv := Lib.hid (Hn.out.trans (if_pos (.inl rfl)))
    go_enter Tryd.func20, Tryd.ntmps20
    go_wp2_with fail
    refine (Tryd.utf8_DecodeRuneInString _ _ hT).mono ?_
    rintro e w1 ⟨rfl, b1⟩
    rw [Hd.out]
    go_wp2
    go_ret
    exact ⟨ret_int (by rw [hv.out]; rfl), b1⟩
  · have h0' : ((r : Int) == 0) = false := by rw [beq_eq_false_iff_ne]; omega
    by_cases h1 : r = 65533
    · subst h1
      by_cases h2 : n < 2
      · have hv := Lib.hid (Hn.out.trans (if_pos (.inr ⟨rfl, h2⟩)))
        go_enter Tryd.func20, Tryd.ntmps20
        go_wp2_with fail
        refine (Tryd.utf8_DecodeRuneInString _ _ hT).mono ?_
        rintro e w1 ⟨rfl, b1⟩
        rw [Hd.out]
        go_wp2
        go_ret
        exact ⟨ret_int (by rw [hv.out]; rfl), b1⟩
      · have hv := Lib.hid (Hn.out.trans (if_neg (by rintro (h | ⟨_, h⟩); exact h0 h; exact h2 h)))
        go_enter Tryd.func20, Tryd.ntmps20
        go_wp2_with fail
        refine (Tryd.utf8_DecodeRuneInString _ _ hT).mono ?_
        rintro e w1 ⟨rfl, b1⟩
        rw [Hd.out]
        go_wp2
        go_ret
        exact ⟨ret_int (by rw [hv.out]), b1⟩
    · have h1' : ((r : Int) == 65533) = false := by rw [beq_eq_false_iff_ne]; omega
      have hv := Lib.hid (Hn.out.trans (if_neg (by rintro (h | ⟨h, _⟩); exact h0 h; exact h1 h)))
      go_enter Tryd.func20, Tryd.ntmps20
      go_wp2_with fail
      refine (Tryd.utf8_DecodeRuneInString _ _ hT).mono ?_
      rintro e w1 ⟨rfl, b1⟩
      rw [Hd.out]
      go_wp2
      go_ret
      exact ⟨ret_int (by rw [hv.out]), b1⟩

theorem fault_any (s : ByteArray) (w : World) (hs : s.size ≤ 140737488351232) (hT : Tabs w) :
    Calls Tryd.prog 12 #[.string s] w fun e w' => e = .returned (.tuple #[.int .i64 (flt s s.size 0).1, .bool (flt s s.size 0).2]) ∧ Below w.heap.size w w' := by
  have HT := Lib.hid hT
  clear hT
  go_enter Tryd.func12, Tryd.ntmps12
  go_wp2
  go_loopw [4] (fun i wr => ∃ a f : Nat, i = .int .i64 a ∧ a ≤ s.size ∧ s.size ≤ a + f ∧ Hid (flt s s.size 0 = flt s f a) ∧ Below w.heap.size w wr) (fun i _ => s.size - (intOf i).toNat)
  case atStart => exact ⟨0, s.size, rfl, by omega, by omega, rfl, Below.refl _ _⟩
  case round =>
    obtain ⟨a, f, rfl, ha, hf, hv, hbel⟩ := hrel
    have hTr : Hid (Tabs wr) := Lib.hid (HT.out.below hbel)
    by_cases hlt : a < s.size
    · obtain ⟨n, hn⟩ : ∃ n, nx s a = n := ⟨_, rfl⟩
      have Hn := Lib.hid hn
      clear hn
      by_cases h0 : n = 0
      · have hr := Lib.hid (hv.out.trans (flt_bad hlt hf (Hn.out.trans h0)))
        subst h0
        go_wp2_with fail
        refine (next_any s a hlt _ hTr.out).mono ?_
        rintro e w1 ⟨rfl, b1⟩
        rw [Hn.out]
        go_wp2
        go_ret2
        exact ⟨ret2 (val_int (by rw [hr.out])) (val_bool (by rw [hr.out])), hbel.trans (b1.mono hbel.size)⟩
      · have hne : ((n : Int) == 0) = false := by rw [beq_eq_false_iff_ne]; omega
        have hle : a + n ≤ s.size := by have := nx_le s a (by rw [Hn.out]; exact h0); rw [Hn.out] at this; exact this
        have hr := Lib.hid (hv.out.trans (flt_step hlt hf (by rw [Hn.out]; exact h0)))
        go_wp2_with fail
        refine (next_any s a hlt _ hTr.out).mono ?_
        rintro e w1 ⟨rfl, b1⟩
        rw [Hn.out]
        go_wp2
        go_roundw
        case rel => exact ⟨a + n, f - 1, by go_num, hle, by omega, by rw [hr.out, Hn.out]; exact Lib.hid rfl, hbel.trans (b1.mono hbel.size)⟩
        case measure => simp [intOf]; omega
    · have hr := Lib.hid (hv.out.trans (flt_end (by omega)))
      go_wp2
      go_ret2
      exact ⟨ret2 (val_int (by rw [hr.out])) (val_bool (by rw [hr.out])), hbel⟩

theorem runes_any (s : ByteArray) (w : World) (hs : s.size ≤ 140737488351232) (hT : Tabs w) :
    Calls Tryd.prog 14 #[.string s] w fun e w' => e = .returned (.int .i64 (rns s s.size 0)) ∧ Below w.heap.size w w' := by
  have HT := Lib.hid hT
  clear hT
  have hs0 := Lib.hid (show s.extract 0 s.size = s by simp)
  go_enter Tryd.func14, Tryd.ntmps14
  go_wp2
  go_loopw [0, 3] (fun v i wr => ∃ a f k : Nat, v = .string (s.extract a s.size) ∧ i = .int .i64 k ∧ a ≤ s.size ∧ s.size ≤ a + f ∧ k ≤ a ∧ Hid (rns s s.size 0 = k + rns s f a) ∧ Below w.heap.size w wr) (fun v _ _ => strSize v)
  case atStart => exact ⟨0, s.size, 0, by rw [hs0.out], rfl, by omega, by omega, by omega, Lib.hid (by omega), Below.refl _ _⟩
  case round =>
    obtain ⟨a, f, k, rfl, rfl, ha, hf, hka, hv, hbel⟩ := hrel
    have hTr : Hid (Tabs wr) := Lib.hid (HT.out.below hbel)
    by_cases hlt : a < s.size
    · obtain ⟨n, hn⟩ : ∃ n, nx s a = n := ⟨_, rfl⟩
      have Hn := Lib.hid hn
      clear hn
      have hemp := str_some (s := s) hlt
      by_cases h0 : n = 0
      · have hr := Lib.hid (hv.out.trans (by rw [rns_bad (Hn.out.trans h0)]))
        subst h0
        go_wp2_with fail
        refine (next_any s a hlt _ hTr.out).mono ?_
        rintro e w1 ⟨rfl, b1⟩
        rw [Hn.out]
        go_wp2
        go_ret
        exact ⟨ret_int (by rw [hr.out]; simp), hbel.trans (b1.mono hbel.size)⟩
      · have hne : ((n : Int) == 0) = false := by rw [beq_eq_false_iff_ne]; omega
        have hle : a + n ≤ s.size := by have := nx_le s a (by rw [Hn.out]; exact h0); rw [Hn.out] at this; exact this
        have hr := Lib.hid (hv.out.trans (by rw [rns_step hlt hf (by rw [Hn.out]; exact h0)]))
        have hx := Lib.hid (ext_ext s a n)
        go_wp2_with fail
        refine (next_any s a hlt _ hTr.out).mono ?_
        rintro e w1 ⟨rfl, b1⟩
        rw [Hn.out]
        go_wp2
        go_roundw
        case rel => exact ⟨a + n, f - 1, k + 1, val_bytes hx.out, by go_num, hle, by omega, by omega, Lib.hid (by rw [hr.out, Hn.out]; omega), hbel.trans (b1.mono hbel.size)⟩
        case measure => simp [strSize, ByteArray.size_extract]; omega
    · have hr := Lib.hid (hv.out.trans (by rw [rns_end (by omega)]))
      have hemp := str_none (s := s) (a := a) (by omega)
      go_wp2
      go_ret
      exact ⟨ret_int (by rw [hr.out]; simp), hbel⟩

theorem cut_any (s : ByteArray) (most : Int) (w : World) (hs : s.size ≤ 140737488351232) (h0 : -9223372036854775808 ≤ most) (h1 : most ≤ 9223372036854775807) (hT : Tabs w) :
    Calls Tryd.prog 10 #[.string s, .int .i64 most] w fun e w' => e = .returned (.string (cutS s most)) ∧ Below w.heap.size w w' := by
  have HT := Lib.hid hT
  clear hT
  go_enter Tryd.func10, Tryd.ntmps10
  go_wp2
  go_loopw [5] (fun i wr => ∃ a f : Nat, i = .int .i64 a ∧ a ≤ s.size ∧ s.size ≤ a + f ∧ (a = 0 ∨ 0 ≤ most) ∧ Hid (cutP s most s.size 0 = cutP s most f a) ∧ Below w.heap.size w wr) (fun i _ => s.size - (intOf i).toNat)
  case atStart => exact ⟨0, s.size, rfl, by omega, by omega, .inl rfl, Lib.hid rfl, Below.refl _ _⟩
  case round =>
    obtain ⟨a, f, rfl, ha, hf, hz, hv, hbel⟩ := hrel
    have hTr : Hid (Tabs wr) := Lib.hid (HT.out.below hbel)
    have hw0 : -9223372036854775808 ≤ most - a := by omega
    by_cases hlt : a < s.size
    · obtain ⟨n, hn⟩ : ∃ n, nx s a = n := ⟨_, rfl⟩
      have Hn := Lib.hid hn
      clear hn
      by_cases hend : n = 0 ∨ most < (a : Int) + n
      · have hr := Lib.hid (hv.out.trans (cutP_end (by rw [Hn.out]; exact .inr hend)))
        by_cases hn0 : n = 0
        · subst hn0
          clear hend
          go_wp2_with fail
          refine (next_any s a hlt _ hTr.out).mono ?_
          rintro e w1 ⟨rfl, b1⟩
          rw [Hn.out]
          go_wp2
          go_ret
          exact ⟨ret_bytes (by unfold cutS; rw [hr.out]), hbel.trans (b1.mono hbel.size)⟩
        · have hne : ((n : Int) == 0) = false := by rw [beq_eq_false_iff_ne]; omega
          have hgt : most - a < n := by omega
          go_wp2_with fail
          refine (next_any s a hlt _ hTr.out).mono ?_
          rintro e w1 ⟨rfl, b1⟩
          rw [Hn.out]
          go_wp2
          go_ret
          exact ⟨ret_bytes (by unfold cutS; rw [hr.out]), hbel.trans (b1.mono hbel.size)⟩
      · have hn0 : ¬ n = 0 := fun h => hend (.inl h)
        have hle' : (n : Int) ≤ most - a := by omega
        have hne : ((n : Int) == 0) = false := by rw [beq_eq_false_iff_ne]; omega
        have hle : a + n ≤ s.size := by have := nx_le s a (by rw [Hn.out]; exact hn0); rw [Hn.out] at this; exact this
        have hr := Lib.hid (hv.out.trans (cutP_step hlt hf (by rw [Hn.out]; exact hn0) (by rw [Hn.out]; omega)))
        have hz2 : 0 ≤ most := by omega
        clear hend
        go_wp2_with fail
        refine (next_any s a hlt _ hTr.out).mono ?_
        rintro e w1 ⟨rfl, b1⟩
        rw [Hn.out]
        go_wp2
        go_roundw
        case rel => exact ⟨a + n, f - 1, by go_num, hle, by omega, .inr hz2, Lib.hid (by rw [hr.out, Hn.out]), hbel.trans (b1.mono hbel.size)⟩
        case measure => simp [intOf]; omega
    · have hr := Lib.hid (hv.out.trans (cutP_end (.inl (by omega))))
      go_wp2
      go_ret
      exact ⟨ret_bytes (by unfold cutS; rw [hr.out]), hbel⟩

theorem tail_any (s : ByteArray) (a : Nat) (lo hi : Int) (w : World) :
    Calls Tryd.prog 27 #[.string s, .int .i64 a, .int .i64 lo, .int .i64 hi] w fun e w' => e = .returned (.bool (tl s a lo hi)) ∧ w = w' := by
  have hbt := get_bt s
  have hb0 := bt_nonneg s a
  have hb1 := bt_le s a
  by_cases h : a < s.size
  · by_cases h2 : lo ≤ bt s a
    · by_cases h3 : bt s a ≤ hi
      · have ht := Lib.hid (tl_iff.2 ⟨h, h2, h3⟩)
        go_enter Tryd.func27, Tryd.ntmps27
        go_wp2
        go_ret
        exact ⟨ret_bool ht.out.symm, rfl⟩
      · have ht := Lib.hid (tl_not.2 (fun hc : a < s.size ∧ lo ≤ bt s a ∧ bt s a ≤ hi => h3 hc.2.2))
        go_enter Tryd.func27, Tryd.ntmps27
        go_wp2
        go_ret
        exact ⟨ret_bool ht.out.symm, rfl⟩
    · have ht := Lib.hid (tl_not.2 (fun hc : a < s.size ∧ lo ≤ bt s a ∧ bt s a ≤ hi => h2 hc.2.1))
      go_enter Tryd.func27, Tryd.ntmps27
      go_wp2
      go_ret
      exact ⟨ret_bool ht.out.symm, rfl⟩
  · have ht := Lib.hid (tl_not.2 (fun hc : a < s.size ∧ lo ≤ bt s a ∧ bt s a ≤ hi => h hc.1))
    go_enter Tryd.func27, Tryd.ntmps27
    go_wp2
    go_ret
    exact ⟨ret_bool ht.out.symm, rfl⟩
end Go.Proofs.YtoojgcblgmipeaaDoor
