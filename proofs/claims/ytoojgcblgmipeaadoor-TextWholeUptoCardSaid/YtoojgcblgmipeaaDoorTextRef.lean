/- The walks of the document's Fault, Runes and Cut. -/
import Derived.Test.YtoojgcblgmipeaaDoorCharAny
namespace Go.Proofs.YtoojgcblgmipeaaDoor
open Go.RowKit Pl Go.Shelf
open Go.PlainAid (bt bt_nonneg bt_le get_bt bt_end)

theorem reffault_any (s : ByteArray) (w : World) (hs : s.size ≤ 140737488351232) :
    Calls Tryd.prog 13 #[.string s] w fun e w' => e = .returned (.tuple #[.int .i64 (flt s s.size 0).1, .bool (flt s s.size 0).2]) ∧ w = w' := by
  go_enter Tryd.func13, Tryd.ntmps13
  go_wp2
  go_loop [4] (fun i => ∃ a f : Nat, i = .int .i64 a ∧ a ≤ s.size ∧ s.size ≤ a + f ∧ Hid (flt s s.size 0 = flt s f a)) (fun i => s.size - (intOf i).toNat)
  case atStart => exact ⟨0, s.size, rfl, by omega, by omega, rfl⟩
  case round =>
    obtain ⟨a, f, rfl, ha, hf, hv⟩ := hrel
    by_cases hlt : a < s.size
    · obtain ⟨n, hn⟩ : ∃ n, nx s a = n := ⟨_, rfl⟩
      have Hn := Lib.hid hn
      clear hn
      by_cases h0 : n = 0
      · have hr := Lib.hid (hv.out.trans (flt_bad hlt hf (Hn.out.trans h0)))
        subst h0
        go_wp2_with fail
        refine (char_any s a hlt _ hs).mono ?_
        rintro e w1 ⟨rfl, rfl⟩
        rw [Hn.out]
        go_wp2
        go_ret2
        exact ⟨ret2 (val_int (by rw [hr.out])) (val_bool (by rw [hr.out])), rfl⟩
      · have hne : ((n : Int) == 0) = false := by rw [beq_eq_false_iff_ne]; omega
        have hle : a + n ≤ s.size := by have := nx_le s a (by rw [Hn.out]; exact h0); rw [Hn.out] at this; exact this
        have hr := Lib.hid (hv.out.trans (flt_step hlt hf (by rw [Hn.out]; exact h0)))
        go_wp2_with fail
        refine (char_any s a hlt _ hs).mono ?_
        rintro e w1 ⟨rfl, rfl⟩
        rw [Hn.out]
        go_wp2
        go_round
        case rel => exact ⟨a + n, f - 1, by go_num, hle, by omega, by rw [hr.out, Hn.out]; exact Lib.hid rfl⟩
        case measure => simp [intOf]; omega
    · have hr := Lib.hid (hv.out.trans (flt_end (by omega)))
      go_wp2
      go_ret2
      exact ⟨ret2 (val_int (by rw [hr.out])) (val_bool (by rw [hr.out])), rfl⟩

theorem refrunes_any (s : ByteArray) (w : World) (hs : s.size ≤ 140737488351232) :
    Calls Tryd.prog 15 #[.string s] w fun e w' => e = .returned (.int .i64 (rns s s.size 0)) ∧ w = w' := by
  go_enter Tryd.func15, Tryd.ntmps15
  go_wp2
  go_loop [3, 4] (fun i c => ∃ a f k : Nat, i = .int .i64 a ∧ c = .int .i64 k ∧ a ≤ s.size ∧ s.size ≤ a + f ∧ k ≤ a ∧ Hid (rns s s.size 0 = k + rns s f a)) (fun i _ => s.size - (intOf i).toNat)
  case atStart => exact ⟨0, s.size, 0, rfl, rfl, by omega, by omega, by omega, Lib.hid (by omega)⟩
  case round =>
    obtain ⟨a, f, k, rfl, rfl, ha, hf, hka, hv⟩ := hrel
    by_cases hlt : a < s.size
    · obtain ⟨n, hn⟩ : ∃ n, nx s a = n := ⟨_, rfl⟩
      have Hn := Lib.hid hn
      clear hn
      by_cases h0 : n = 0
      · have hr := Lib.hid (hv.out.trans (by rw [rns_bad (Hn.out.trans h0)]))
        subst h0
        go_wp2_with fail
        refine (char_any s a hlt _ hs).mono ?_
        rintro e w1 ⟨rfl, rfl⟩
        rw [Hn.out]
        go_wp2
        go_ret
        exact ⟨ret_int (by rw [hr.out]; simp), rfl⟩
      · have hne : ((n : Int) == 0) = false := by rw [beq_eq_false_iff_ne]; omega
        have hle : a + n ≤ s.size := by have := nx_le s a (by rw [Hn.out]; exact h0); rw [Hn.out] at this; exact this
        have hr := Lib.hid (hv.out.trans (by rw [rns_step hlt hf (by rw [Hn.out]; exact h0)]))
        go_wp2_with fail
        refine (char_any s a hlt _ hs).mono ?_
        rintro e w1 ⟨rfl, rfl⟩
        rw [Hn.out]
        go_wp2
        go_round
        case rel => exact ⟨a + n, f - 1, k + 1, by go_num, by go_num, hle, by omega, by omega, Lib.hid (by rw [hr.out, Hn.out]; omega)⟩
        case measure => simp [intOf]; omega
    · have hr := Lib.hid (hv.out.trans (by rw [rns_end (by omega)]))
      go_wp2
      go_ret
      exact ⟨ret_int (by rw [hr.out]; simp), rfl⟩

theorem ext_all (s : ByteArray) : s = s.extract 0 s.size := by simp

theorem refcut_any (s : ByteArray) (most : Int) (w : World) (hs : s.size ≤ 140737488351232) :
    Calls Tryd.prog 11 #[.string s, .int .i64 most] w fun e w' => e = .returned (.string (cutS s most)) ∧ w = w' := by
  go_enter Tryd.func11, Tryd.ntmps11
  go_wp2
  go_loop [5] (fun i => ∃ a f : Nat, i = .int .i64 a ∧ a ≤ s.size ∧ s.size ≤ a + f ∧ Hid (cutP s most s.size 0 = cutP s most f a)) (fun i => s.size - (intOf i).toNat)
  case atStart => exact ⟨0, s.size, rfl, by omega, by omega, Lib.hid rfl⟩
  case round =>
    obtain ⟨a, f, rfl, ha, hf, hv⟩ := hrel
    by_cases hlt : a < s.size
    · obtain ⟨n, hn⟩ : ∃ n, nx s a = n := ⟨_, rfl⟩
      have Hn := Lib.hid hn
      clear hn
      by_cases hend : n = 0 ∨ most < (a : Int) + n
      · have hr := Lib.hid (hv.out.trans (cutP_end (by rw [Hn.out]; exact .inr hend)))
        by_cases hn0 : n = 0
        · subst hn0
          clear hend
          go_wp2_with fail
          refine (char_any s a hlt _ hs).mono ?_
          rintro e w1 ⟨rfl, rfl⟩
          rw [Hn.out]
          go_wp2
          go_ret
          exact ⟨ret_bytes (by unfold cutS; rw [hr.out]), rfl⟩
        · have hne : ((n : Int) == 0) = false := by rw [beq_eq_false_iff_ne]; omega
          have hnle : a + n ≤ s.size := by have := nx_le s a (by rw [Hn.out]; exact hn0); rw [Hn.out] at this; exact this
          have hgt : most < (a : Int) + n := by omega
          clear hend
          go_wp2_with fail
          refine (char_any s a hlt _ hs).mono ?_
          rintro e w1 ⟨rfl, rfl⟩
          rw [Hn.out]
          go_wp2
          go_ret
          exact ⟨ret_bytes (by unfold cutS; rw [hr.out]), rfl⟩
      · have hn0 : ¬ n = 0 := fun h => hend (.inl h)
        have hle' : (a : Int) + n ≤ most := by omega
        have hne : ((n : Int) == 0) = false := by rw [beq_eq_false_iff_ne]; omega
        have hle : a + n ≤ s.size := by have := nx_le s a (by rw [Hn.out]; exact hn0); rw [Hn.out] at this; exact this
        have hr := Lib.hid (hv.out.trans (cutP_step hlt hf (by rw [Hn.out]; exact hn0) (by rw [Hn.out]; omega)))
        clear hend
        go_wp2_with fail
        refine (char_any s a hlt _ hs).mono ?_
        rintro e w1 ⟨rfl, rfl⟩
        rw [Hn.out]
        go_wp2
        go_round
        case rel => exact ⟨a + n, f - 1, by go_num, hle, by omega, Lib.hid (by rw [hr.out, Hn.out])⟩
        case measure => simp [intOf]; omega
    · have hr := Lib.hid (hv.out.trans (cutP_end (.inl (by omega))))
      have hx := Lib.hid (show s = cutS s most by unfold cutS; rw [hr.out, show a = s.size from by omega]; exact ext_all s)
      go_wp2
      go_ret
      exact ⟨ret_bytes hx.out, rfl⟩
end Go.Proofs.YtoojgcblgmipeaaDoor
